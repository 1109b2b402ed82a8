-- Written by this claim's own program out of the translation; not trusted: Lean checks it.
import Derived.Test.YtcpncmjjbfbdhaaDoorRx0
import Derived.Test.YtcpncmjjbfbdhaaDoorRx5
import Derived.Test.YtcpncmjjbfbdhaaDoorRx10
import Derived.Test.YtcpncmjjbfbdhaaDoorRx20
namespace Go.Proofs.YtcpncmjjbfbdhaaDoor.R
open Go.RowKit Go.Proofs.YtcpncmjjbfbdhaaDoorW.PrintWords Go.Proofs.YtcpncmjjbfbdhaaDoorW.PrintLast Go.Proofs.YtcpncmjjbfbdhaaDoorW.PrintMore
attribute [local go_sem] max2_int min2_int max_two min_two max_three min_three max_four min_four   -- for this text's walks alone
set_option linter.unusedVariables false
set_option linter.unusedSimpArgs false

/-! ### plenumlaw21_SequencerDelays: function 6 -/
mutual
def plenumlaw21_SequencerDelays.j0 : Nat → List Int → List Int → Int → Bool → Option (Bool)
 | 0, _, _, _, _ => none
 | k + 1, x0, x1, x2, x32 => if x32 = true then (some true) else (plenumlaw21_SequencerDelays.l0 k x0 x1 x2 0)
def plenumlaw21_SequencerDelays.l0 : Nat → List Int → List Int → Int → Int → Option (Bool)
 | 0, _, _, _, _ => none
 | k + 1, x0, x1, x2, x7 => if x7 < (x1.length : Int) then (if 0 ≤ x7 then (if (rd x1 x7) < (-1000000000000) then (some true) else (if (rd x1 x7) > 1000000000000 then (some true) else (plenumlaw21_SequencerDelays.l0 k x0 x1 x2 (wrap64 (x7 + 1))))) else (none)) else ((plenumlaw21_run.f k x0 (([0, 0] : List Int)) x1 x2).bind fun bt745 => (if bt745.2 = true then (plenumlaw21_SequencerDelays.l1 k x0 x1 x2 bt745.1 0 0) else (none)))
def plenumlaw21_SequencerDelays.l1 : Nat → List Int → List Int → Int → List Int → Int → Int → Option (Bool)
 | 0, _, _, _, _, _, _ => none
 | k + 1, x0, x1, x2, x8, x10, x11 => if x11 < (x8.length : Int) then (if 0 ≤ x11 then (if (wrap64 ((rd x8 x11) - x10)) < (-1) then (plenumlaw21_SequencerDelays.j3 k x0 x1 x2 x8 (rd x8 x11) x11 (wrap64 ((rd x8 x11) - x10)) true) else (if (wrap64 ((rd x8 x11) - x10)) > 1 then (plenumlaw21_SequencerDelays.j3 k x0 x1 x2 x8 (rd x8 x11) x11 (wrap64 ((rd x8 x11) - x10)) true) else (if (rd x8 x11) < 0 then (plenumlaw21_SequencerDelays.j3 k x0 x1 x2 x8 (rd x8 x11) x11 (wrap64 ((rd x8 x11) - x10)) true) else (if 0 < (x0.length : Int) then (plenumlaw21_SequencerDelays.j3 k x0 x1 x2 x8 (rd x8 x11) x11 (wrap64 ((rd x8 x11) - x10)) (decide ((rd x8 x11) > (rd x0 0)))) else (none))))) else (none)) else (some true)
def plenumlaw21_SequencerDelays.j3 : Nat → List Int → List Int → Int → List Int → Int → Int → Int → Bool → Option (Bool)
 | 0, _, _, _, _, _, _, _, _ => none
 | k + 1, x0, x1, x2, x8, x10, x11, x12, x93 => if x93 = true then (none) else (plenumlaw21_SequencerDelays.l2 k x0 x1 x2 x8 x10 x11 x12 x11)
def plenumlaw21_SequencerDelays.l2 : Nat → List Int → List Int → Int → List Int → Int → Int → Int → Int → Option (Bool)
 | 0, _, _, _, _, _, _, _, _ => none
 | k + 1, x0, x1, x2, x8, x10, x11, x12, x13 => if x12 = 0 then (plenumlaw21_SequencerDelays.j5 k x0 x1 x2 x8 x10 x11 x12 x13 false) else (plenumlaw21_SequencerDelays.j5 k x0 x1 x2 x8 x10 x11 x12 x13 (decide (x13 ≥ 0)))
def plenumlaw21_SequencerDelays.j5 : Nat → List Int → List Int → Int → List Int → Int → Int → Int → Int → Bool → Option (Bool)
 | 0, _, _, _, _, _, _, _, _, _ => none
 | k + 1, x0, x1, x2, x8, x10, x11, x12, x13, x100 => if x100 = true then (if x12 = 1 then (if x13 = x11 then (if 0 ≤ x13 then (if x13 < (x1.length : Int) then (if 1 < (x0.length : Int) then (if (rd x1 x13) ≤ (rd x0 1) then (none) else (if x12 = (-1) then (if 2 < (x0.length : Int) then (if (rd x1 x13) ≥ (rd x0 2) then (none) else (plenumlaw21_SequencerDelays.l2 k x0 x1 x2 x8 x10 x11 x12 (wrap64 (x13 - 1)))) else (none)) else (plenumlaw21_SequencerDelays.l2 k x0 x1 x2 x8 x10 x11 x12 (wrap64 (x13 - 1))))) else (none)) else (none)) else (none)) else (if 3 < (x0.length : Int) then (if (wrap64 ((wrap64 (x11 - x13)) * x2)) < (rd x0 3) then (if 0 ≤ x13 then (if x13 < (x1.length : Int) then (if 1 < (x0.length : Int) then (if (rd x1 x13) ≤ (rd x0 1) then (none) else (if x12 = (-1) then (if 4 < (x0.length : Int) then (if (wrap64 ((wrap64 (x11 - x13)) * x2)) < (rd x0 4) then (if 2 < (x0.length : Int) then (if (rd x1 x13) ≥ (rd x0 2) then (none) else (plenumlaw21_SequencerDelays.l2 k x0 x1 x2 x8 x10 x11 x12 (wrap64 (x13 - 1)))) else (none)) else (plenumlaw21_SequencerDelays.l2 k x0 x1 x2 x8 x10 x11 x12 (wrap64 (x13 - 1)))) else (none)) else (plenumlaw21_SequencerDelays.l2 k x0 x1 x2 x8 x10 x11 x12 (wrap64 (x13 - 1))))) else (none)) else (none)) else (none)) else (if x12 = (-1) then (if 4 < (x0.length : Int) then (if (wrap64 ((wrap64 (x11 - x13)) * x2)) < (rd x0 4) then (if 0 ≤ x13 then (if x13 < (x1.length : Int) then (if 2 < (x0.length : Int) then (if (rd x1 x13) ≥ (rd x0 2) then (none) else (plenumlaw21_SequencerDelays.l2 k x0 x1 x2 x8 x10 x11 x12 (wrap64 (x13 - 1)))) else (none)) else (none)) else (none)) else (plenumlaw21_SequencerDelays.l2 k x0 x1 x2 x8 x10 x11 x12 (wrap64 (x13 - 1)))) else (none)) else (plenumlaw21_SequencerDelays.l2 k x0 x1 x2 x8 x10 x11 x12 (wrap64 (x13 - 1))))) else (none))) else (if x12 = (-1) then (if x13 = x11 then (if 0 ≤ x13 then (if x13 < (x1.length : Int) then (if 2 < (x0.length : Int) then (if (rd x1 x13) ≥ (rd x0 2) then (none) else (plenumlaw21_SequencerDelays.l2 k x0 x1 x2 x8 x10 x11 x12 (wrap64 (x13 - 1)))) else (none)) else (none)) else (none)) else (if 4 < (x0.length : Int) then (if (wrap64 ((wrap64 (x11 - x13)) * x2)) < (rd x0 4) then (if 0 ≤ x13 then (if x13 < (x1.length : Int) then (if 2 < (x0.length : Int) then (if (rd x1 x13) ≥ (rd x0 2) then (none) else (plenumlaw21_SequencerDelays.l2 k x0 x1 x2 x8 x10 x11 x12 (wrap64 (x13 - 1)))) else (none)) else (none)) else (none)) else (plenumlaw21_SequencerDelays.l2 k x0 x1 x2 x8 x10 x11 x12 (wrap64 (x13 - 1)))) else (none))) else (plenumlaw21_SequencerDelays.l2 k x0 x1 x2 x8 x10 x11 x12 (wrap64 (x13 - 1))))) else (plenumlaw21_SequencerDelays.l1 k x0 x1 x2 x8 x10 (wrap64 (x11 + 1)))
end
def plenumlaw21_SequencerDelays.f (k : Nat) (l0 : List Int) (l1 : List Int) (a2 : Int) : Option (Bool) := (plenumlaw21_awake.f k).bind fun t738 => (if t738 = true then (if (l1.length : Int) > 40 then (plenumlaw21_SequencerDelays.j0 k l0 l1 a2 true) else ((sequencer_Check.f k (⟨#[115, 116, 97, 103, 101]⟩ : ByteArray) l0).bind fun t739 => (if t739 = 0 then (if a2 < 1 then (plenumlaw21_SequencerDelays.j0 k l0 l1 a2 true) else (plenumlaw21_SequencerDelays.j0 k l0 l1 a2 (decide (a2 > 86400)))) else (plenumlaw21_SequencerDelays.j0 k l0 l1 a2 true)))) else (none))
theorem plenumlaw21_SequencerDelays.mono_l : ∀ k, (∀ y0 y1 y2 y3, LeO (plenumlaw21_SequencerDelays.j0 k y0 y1 y2 y3) (plenumlaw21_SequencerDelays.j0 (k + 1) y0 y1 y2 y3)) ∧ (∀ y0 y1 y2 y3, LeO (plenumlaw21_SequencerDelays.l0 k y0 y1 y2 y3) (plenumlaw21_SequencerDelays.l0 (k + 1) y0 y1 y2 y3)) ∧ (∀ y0 y1 y2 y3 y4 y5, LeO (plenumlaw21_SequencerDelays.l1 k y0 y1 y2 y3 y4 y5) (plenumlaw21_SequencerDelays.l1 (k + 1) y0 y1 y2 y3 y4 y5)) ∧ (∀ y0 y1 y2 y3 y4 y5 y6 y7, LeO (plenumlaw21_SequencerDelays.j3 k y0 y1 y2 y3 y4 y5 y6 y7) (plenumlaw21_SequencerDelays.j3 (k + 1) y0 y1 y2 y3 y4 y5 y6 y7)) ∧ (∀ y0 y1 y2 y3 y4 y5 y6 y7, LeO (plenumlaw21_SequencerDelays.l2 k y0 y1 y2 y3 y4 y5 y6 y7) (plenumlaw21_SequencerDelays.l2 (k + 1) y0 y1 y2 y3 y4 y5 y6 y7)) ∧ (∀ y0 y1 y2 y3 y4 y5 y6 y7 y8, LeO (plenumlaw21_SequencerDelays.j5 k y0 y1 y2 y3 y4 y5 y6 y7 y8) (plenumlaw21_SequencerDelays.j5 (k + 1) y0 y1 y2 y3 y4 y5 y6 y7 y8))
 | 0 => ⟨fun _ _ _ _ r h => by simp [plenumlaw21_SequencerDelays.j0] at h, fun _ _ _ _ r h => by simp [plenumlaw21_SequencerDelays.l0] at h, fun _ _ _ _ _ _ r h => by simp [plenumlaw21_SequencerDelays.l1] at h, fun _ _ _ _ _ _ _ _ r h => by simp [plenumlaw21_SequencerDelays.j3] at h, fun _ _ _ _ _ _ _ _ r h => by simp [plenumlaw21_SequencerDelays.l2] at h, fun _ _ _ _ _ _ _ _ _ r h => by simp [plenumlaw21_SequencerDelays.j5] at h⟩
 | k + 1 => by
  obtain ⟨ih0, ih1, ih2, ih3, ih4, ih5⟩ := plenumlaw21_SequencerDelays.mono_l k
  refine ⟨?_, ?_, ?_, ?_, ?_, ?_⟩
  ·
   intro y0 y1 y2 y3
   unfold plenumlaw21_SequencerDelays.j0
   repeat' first
   | (with_reducible exact ih0 _ _ _ _)
   | (with_reducible exact ih1 _ _ _ _)
   | (with_reducible exact ih2 _ _ _ _ _ _)
   | (with_reducible exact ih3 _ _ _ _ _ _ _ _)
   | (with_reducible exact ih4 _ _ _ _ _ _ _ _)
   | (with_reducible exact ih5 _ _ _ _ _ _ _ _ _)
   | (with_reducible exact plenumlaw21_awake.mono _)
   | (with_reducible exact plenumlaw21_run.mono _ _ _ _ _)
   | (with_reducible exact sequencer_Check.mono _ _ _)
   | (with_reducible exact LeO.refl _)
   | (with_reducible exact LeO.none _)
   | (with_reducible refine LeO.ite ?_ ?_)
   | (with_reducible refine LeO.bind ?_ (fun _ => ?_))
   | exact ih0 _ _ _ _
   | exact ih1 _ _ _ _
   | exact ih2 _ _ _ _ _ _
   | exact ih3 _ _ _ _ _ _ _ _
   | exact ih4 _ _ _ _ _ _ _ _
   | exact ih5 _ _ _ _ _ _ _ _ _
   | exact plenumlaw21_awake.mono _
   | exact plenumlaw21_run.mono _ _ _ _ _
   | exact sequencer_Check.mono _ _ _
   | exact LeO.none _
   | refine LeO.ite ?_ ?_
   | refine LeO.bind ?_ (fun _ => ?_)
  ·
   intro y0 y1 y2 y3
   unfold plenumlaw21_SequencerDelays.l0
   repeat' first
   | (with_reducible exact ih0 _ _ _ _)
   | (with_reducible exact ih1 _ _ _ _)
   | (with_reducible exact ih2 _ _ _ _ _ _)
   | (with_reducible exact ih3 _ _ _ _ _ _ _ _)
   | (with_reducible exact ih4 _ _ _ _ _ _ _ _)
   | (with_reducible exact ih5 _ _ _ _ _ _ _ _ _)
   | (with_reducible exact plenumlaw21_awake.mono _)
   | (with_reducible exact plenumlaw21_run.mono _ _ _ _ _)
   | (with_reducible exact sequencer_Check.mono _ _ _)
   | (with_reducible exact LeO.refl _)
   | (with_reducible exact LeO.none _)
   | (with_reducible refine LeO.ite ?_ ?_)
   | (with_reducible refine LeO.bind ?_ (fun _ => ?_))
   | exact ih0 _ _ _ _
   | exact ih1 _ _ _ _
   | exact ih2 _ _ _ _ _ _
   | exact ih3 _ _ _ _ _ _ _ _
   | exact ih4 _ _ _ _ _ _ _ _
   | exact ih5 _ _ _ _ _ _ _ _ _
   | exact plenumlaw21_awake.mono _
   | exact plenumlaw21_run.mono _ _ _ _ _
   | exact sequencer_Check.mono _ _ _
   | exact LeO.none _
   | refine LeO.ite ?_ ?_
   | refine LeO.bind ?_ (fun _ => ?_)
  ·
   intro y0 y1 y2 y3 y4 y5
   unfold plenumlaw21_SequencerDelays.l1
   repeat' first
   | (with_reducible exact ih0 _ _ _ _)
   | (with_reducible exact ih1 _ _ _ _)
   | (with_reducible exact ih2 _ _ _ _ _ _)
   | (with_reducible exact ih3 _ _ _ _ _ _ _ _)
   | (with_reducible exact ih4 _ _ _ _ _ _ _ _)
   | (with_reducible exact ih5 _ _ _ _ _ _ _ _ _)
   | (with_reducible exact plenumlaw21_awake.mono _)
   | (with_reducible exact plenumlaw21_run.mono _ _ _ _ _)
   | (with_reducible exact sequencer_Check.mono _ _ _)
   | (with_reducible exact LeO.refl _)
   | (with_reducible exact LeO.none _)
   | (with_reducible refine LeO.ite ?_ ?_)
   | (with_reducible refine LeO.bind ?_ (fun _ => ?_))
   | exact ih0 _ _ _ _
   | exact ih1 _ _ _ _
   | exact ih2 _ _ _ _ _ _
   | exact ih3 _ _ _ _ _ _ _ _
   | exact ih4 _ _ _ _ _ _ _ _
   | exact ih5 _ _ _ _ _ _ _ _ _
   | exact plenumlaw21_awake.mono _
   | exact plenumlaw21_run.mono _ _ _ _ _
   | exact sequencer_Check.mono _ _ _
   | exact LeO.none _
   | refine LeO.ite ?_ ?_
   | refine LeO.bind ?_ (fun _ => ?_)
  ·
   intro y0 y1 y2 y3 y4 y5 y6 y7
   unfold plenumlaw21_SequencerDelays.j3
   repeat' first
   | (with_reducible exact ih0 _ _ _ _)
   | (with_reducible exact ih1 _ _ _ _)
   | (with_reducible exact ih2 _ _ _ _ _ _)
   | (with_reducible exact ih3 _ _ _ _ _ _ _ _)
   | (with_reducible exact ih4 _ _ _ _ _ _ _ _)
   | (with_reducible exact ih5 _ _ _ _ _ _ _ _ _)
   | (with_reducible exact plenumlaw21_awake.mono _)
   | (with_reducible exact plenumlaw21_run.mono _ _ _ _ _)
   | (with_reducible exact sequencer_Check.mono _ _ _)
   | (with_reducible exact LeO.refl _)
   | (with_reducible exact LeO.none _)
   | (with_reducible refine LeO.ite ?_ ?_)
   | (with_reducible refine LeO.bind ?_ (fun _ => ?_))
   | exact ih0 _ _ _ _
   | exact ih1 _ _ _ _
   | exact ih2 _ _ _ _ _ _
   | exact ih3 _ _ _ _ _ _ _ _
   | exact ih4 _ _ _ _ _ _ _ _
   | exact ih5 _ _ _ _ _ _ _ _ _
   | exact plenumlaw21_awake.mono _
   | exact plenumlaw21_run.mono _ _ _ _ _
   | exact sequencer_Check.mono _ _ _
   | exact LeO.none _
   | refine LeO.ite ?_ ?_
   | refine LeO.bind ?_ (fun _ => ?_)
  ·
   intro y0 y1 y2 y3 y4 y5 y6 y7
   unfold plenumlaw21_SequencerDelays.l2
   repeat' first
   | (with_reducible exact ih0 _ _ _ _)
   | (with_reducible exact ih1 _ _ _ _)
   | (with_reducible exact ih2 _ _ _ _ _ _)
   | (with_reducible exact ih3 _ _ _ _ _ _ _ _)
   | (with_reducible exact ih4 _ _ _ _ _ _ _ _)
   | (with_reducible exact ih5 _ _ _ _ _ _ _ _ _)
   | (with_reducible exact plenumlaw21_awake.mono _)
   | (with_reducible exact plenumlaw21_run.mono _ _ _ _ _)
   | (with_reducible exact sequencer_Check.mono _ _ _)
   | (with_reducible exact LeO.refl _)
   | (with_reducible exact LeO.none _)
   | (with_reducible refine LeO.ite ?_ ?_)
   | (with_reducible refine LeO.bind ?_ (fun _ => ?_))
   | exact ih0 _ _ _ _
   | exact ih1 _ _ _ _
   | exact ih2 _ _ _ _ _ _
   | exact ih3 _ _ _ _ _ _ _ _
   | exact ih4 _ _ _ _ _ _ _ _
   | exact ih5 _ _ _ _ _ _ _ _ _
   | exact plenumlaw21_awake.mono _
   | exact plenumlaw21_run.mono _ _ _ _ _
   | exact sequencer_Check.mono _ _ _
   | exact LeO.none _
   | refine LeO.ite ?_ ?_
   | refine LeO.bind ?_ (fun _ => ?_)
  ·
   intro y0 y1 y2 y3 y4 y5 y6 y7 y8
   unfold plenumlaw21_SequencerDelays.j5
   repeat' first
   | (with_reducible exact ih0 _ _ _ _)
   | (with_reducible exact ih1 _ _ _ _)
   | (with_reducible exact ih2 _ _ _ _ _ _)
   | (with_reducible exact ih3 _ _ _ _ _ _ _ _)
   | (with_reducible exact ih4 _ _ _ _ _ _ _ _)
   | (with_reducible exact ih5 _ _ _ _ _ _ _ _ _)
   | (with_reducible exact plenumlaw21_awake.mono _)
   | (with_reducible exact plenumlaw21_run.mono _ _ _ _ _)
   | (with_reducible exact sequencer_Check.mono _ _ _)
   | (with_reducible exact LeO.refl _)
   | (with_reducible exact LeO.none _)
   | (with_reducible refine LeO.ite ?_ ?_)
   | (with_reducible refine LeO.bind ?_ (fun _ => ?_))
   | exact ih0 _ _ _ _
   | exact ih1 _ _ _ _
   | exact ih2 _ _ _ _ _ _
   | exact ih3 _ _ _ _ _ _ _ _
   | exact ih4 _ _ _ _ _ _ _ _
   | exact ih5 _ _ _ _ _ _ _ _ _
   | exact plenumlaw21_awake.mono _
   | exact plenumlaw21_run.mono _ _ _ _ _
   | exact sequencer_Check.mono _ _ _
   | exact LeO.none _
   | refine LeO.ite ?_ ?_
   | refine LeO.bind ?_ (fun _ => ?_)
theorem plenumlaw21_SequencerDelays.mono : ∀ a0 a1 a2 k, LeO (plenumlaw21_SequencerDelays.f k a0 a1 a2) (plenumlaw21_SequencerDelays.f (k + 1) a0 a1 a2) := by
 intro a0 a1 a2 k
 obtain ⟨ih0, ih1, ih2, ih3, ih4, ih5⟩ := plenumlaw21_SequencerDelays.mono_l k
 unfold plenumlaw21_SequencerDelays.f
 repeat' first
   | (with_reducible exact ih0 _ _ _ _)
   | (with_reducible exact ih1 _ _ _ _)
   | (with_reducible exact ih2 _ _ _ _ _ _)
   | (with_reducible exact ih3 _ _ _ _ _ _ _ _)
   | (with_reducible exact ih4 _ _ _ _ _ _ _ _)
   | (with_reducible exact ih5 _ _ _ _ _ _ _ _ _)
   | (with_reducible exact plenumlaw21_awake.mono _)
   | (with_reducible exact plenumlaw21_run.mono _ _ _ _ _)
   | (with_reducible exact sequencer_Check.mono _ _ _)
   | (with_reducible exact LeO.refl _)
   | (with_reducible exact LeO.none _)
   | (with_reducible refine LeO.ite ?_ ?_)
   | (with_reducible refine LeO.bind ?_ (fun _ => ?_))
   | exact ih0 _ _ _ _
   | exact ih1 _ _ _ _
   | exact ih2 _ _ _ _ _ _
   | exact ih3 _ _ _ _ _ _ _ _
   | exact ih4 _ _ _ _ _ _ _ _
   | exact ih5 _ _ _ _ _ _ _ _ _
   | exact plenumlaw21_awake.mono _
   | exact plenumlaw21_run.mono _ _ _ _ _
   | exact sequencer_Check.mono _ _ _
   | exact LeO.none _
   | refine LeO.ite ?_ ?_
   | refine LeO.bind ?_ (fun _ => ?_)
set_option maxHeartbeats 8000000 in
set_option maxRecDepth 100000 in
theorem plenumlaw21_SequencerDelays.calls (k : Nat) (A0 : Option Addr) (c0 : Nat) (l0 : List Int) (A1 : Option Addr) (c1 : Nat) (l1 : List Int) (a2 : Int) (r : Bool) (w : World) (hr0 : Kd.C (Kd.int .i64) w A0 l0.length l0) (hc0 : l0.length ≤ c0) (hr1 : Kd.C (Kd.int .i64) w A1 l1.length l1) (hc1 : l1.length ≤ c1) (hG : GW w) (h : plenumlaw21_SequencerDelays.f k l0 l1 a2 = some r) :
  Calls Tryd.prog 6 #[.slice A0 l0.length c0, .slice A1 l1.length c1, .int .i64 a2] w fun e w' => e = .returned (.bool r) ∧ Below w.heap.size w w' := by
 have HG := Aside0.mk hG
 clear hG
 have HR0 := Aside0.mk hr0
 have HC0 := Aside0.mk hc0
 clear hr0 hc0
 have HR1 := Aside0.mk hr1
 have HC1 := Aside0.mk hc1
 clear hr1 hc1
 have HB := Aside0.mk (Below.refl w.heap.size w)
 have H : ((plenumlaw21_awake.f k).bind fun t738 => (if t738 = true then (if (l1.length : Int) > 40 then (plenumlaw21_SequencerDelays.j0 k l0 l1 a2 true) else ((sequencer_Check.f k (⟨#[115, 116, 97, 103, 101]⟩ : ByteArray) l0).bind fun t739 => (if t739 = 0 then (if a2 < 1 then (plenumlaw21_SequencerDelays.j0 k l0 l1 a2 true) else (plenumlaw21_SequencerDelays.j0 k l0 l1 a2 (decide (a2 > 86400)))) else (plenumlaw21_SequencerDelays.j0 k l0 l1 a2 true)))) else (none))) = some r := h
 clear h
 replace H := Option.bind_eq_some_iff.mp H
 obtain ⟨t738, A40, H⟩ := H
 replace H : (if t738 = true then (if (l1.length : Int) > 40 then (plenumlaw21_SequencerDelays.j0 k l0 l1 a2 true) else ((sequencer_Check.f k (⟨#[115, 116, 97, 103, 101]⟩ : ByteArray) l0).bind fun t739 => (if t739 = 0 then (if a2 < 1 then (plenumlaw21_SequencerDelays.j0 k l0 l1 a2 true) else (plenumlaw21_SequencerDelays.j0 k l0 l1 a2 (decide (a2 > 86400)))) else (plenumlaw21_SequencerDelays.j0 k l0 l1 a2 true)))) else (none)) = some r := H
 have A4 := Aside0.mk A40
 clear A40
 by_cases c5 : t738 = true
 ·
  subst c5
  have H1 : (if (l1.length : Int) > 40 then (plenumlaw21_SequencerDelays.j0 k l0 l1 a2 true) else ((sequencer_Check.f k (⟨#[115, 116, 97, 103, 101]⟩ : ByteArray) l0).bind fun t739 => (if t739 = 0 then (if a2 < 1 then (plenumlaw21_SequencerDelays.j0 k l0 l1 a2 true) else (plenumlaw21_SequencerDelays.j0 k l0 l1 a2 (decide (a2 > 86400)))) else (plenumlaw21_SequencerDelays.j0 k l0 l1 a2 true)))) = some r := by rw [if_pos rfl] at H; exact H
  clear H
  have H := H1
  clear H1
  have HC6 := Aside0.mk H
  clear H
  go_enter Tryd.func6, Tryd.ntmps6
  go_upto_region 3 with (first | (go_at_call 9; (with_reducible refine (plenumlaw21_awake.calls k  true _ ?side1 A4.out).mono ?_); (case side1 => exact GW.below HG.out bl); rintro e w7 ⟨rfl, hb⟩; have n0_ := Aside0.mk (below_step bl hb); clear HB; have HB := n0_; clear n0_; (try clear hb); (try clear hb2); (try clear hk); (try clear hi)))
  repeat (go_quiet (first | (go_at_call 9; (with_reducible refine (plenumlaw21_awake.calls k  true _ ?side1 A4.out).mono ?_); (case side1 => exact GW.below HG.out bl); rintro e w7 ⟨rfl, hb⟩; have n0_ := Aside0.mk (below_step bl hb); clear HB; have HB := n0_; clear n0_; (try clear hb); (try clear hb2); (try clear hk); (try clear hi))); go_upto_region 3 with (first | (go_at_call 9; (with_reducible refine (plenumlaw21_awake.calls k  true _ ?side1 A4.out).mono ?_); (case side1 => exact GW.below HG.out bl); rintro e w7 ⟨rfl, hb⟩; have n0_ := Aside0.mk (below_step bl hb); clear HB; have HB := n0_; clear n0_; (try clear hb); (try clear hb2); (try clear hk); (try clear hi))))
  (try simp only [Act.put, List.setIfInBounds_toArray, List.set_cons_zero, List.set_cons_succ])
  go_cut [32] (fun v32 wc => ∃ (kq : Nat) (x32_5 : Bool), v32 = .bool x32_5 ∧ Aside0 (plenumlaw21_SequencerDelays.j0 kq l0 l1 a2 x32_5 = some r) ∧ Aside0 (kq ≤ k) ∧ Aside0 (Below w.heap.size w wc))
  case first =>
   have H := HC6.out
   clear HC6
   by_cases c8 : (l1.length : Int) > 40
   ·
    rw [if_pos c8] at H
    have c8b0 : decide (40 < (l1.length : Int)) = true := decide_eq_true c8
    have c8b1 : decide (40 < l1.length) = true := decide_eq_true (by omega)
    clear c8
    (first | rw [c8b0] | (simp only [i64_w, i32_w]; rw [c8b0]) | skip)
    have H' := Aside0.mk H
    clear H
    go_wp2
    repeat (go_quiet (fail); try go_wp2)
    go_meet
    case rel => exact ⟨_, (true), (by first | rfl | (simp; done) | (simp [*]; done)), H', ⟨by first | omega | exact Nat.le_refl _⟩, ⟨bl⟩⟩
   ·
    rw [if_neg c8] at H
    have c8b0 : decide (40 < (l1.length : Int)) = false := decide_eq_false c8
    have c8b1 : decide (40 < l1.length) = false := decide_eq_false (by omega)
    clear c8
    (first | rw [c8b0] | (simp only [i64_w, i32_w]; rw [c8b0]) | skip)
    replace H := Option.bind_eq_some_iff.mp H
    obtain ⟨t739, A90, H⟩ := H
    replace H : (if t739 = 0 then (if a2 < 1 then (plenumlaw21_SequencerDelays.j0 k l0 l1 a2 true) else (plenumlaw21_SequencerDelays.j0 k l0 l1 a2 (decide (a2 > 86400)))) else (plenumlaw21_SequencerDelays.j0 k l0 l1 a2 true)) = some r := H
    have A9 := Aside0.mk A90
    clear A90
    by_cases c10 : t739 = 0
    ·
     rw [if_pos c10] at H
     have c10b0 : (t739 == 0) = true := beq_iff_eq.mpr c10
     have c10b1 : (t739 != 0) = false := bne_eq_false_iff_eq.mpr c10
     clear c10
     by_cases c11 : a2 < 1
     ·
      rw [if_pos c11] at H
      have c11b0 : decide (a2 < 1) = true := decide_eq_true c11
      clear c11
      have H' := Aside0.mk H
      clear H
      go_wp2_with (first | (go_at_call 14; (with_reducible refine (sequencer_Check.calls k (⟨#[115, 116, 97, 103, 101]⟩ : ByteArray) _ _ l0 t739 _ ?side1 ?side2 ?side3 A9.out).mono ?_); (case side1 => repeat (first | exact (Kd.C_below HR0.out HB.out) | (with_reducible refine Kd.C_alloc ?_ _) | (with_reducible refine Kd.C_drewN ?_ _) | (with_reducible refine Kd.C_drew ?_))); (case side2 => exact HC0.out); (case side3 => exact GW.below HG.out bl); rintro e w12 ⟨rfl, hb⟩; have n0_ := Aside0.mk (below_step bl hb); clear HB; have HB := n0_; clear n0_; (try clear hb); (try clear hb2); (try clear hk); (try clear hi)))
      repeat (go_quiet (first | (go_at_call 14; (with_reducible refine (sequencer_Check.calls k (⟨#[115, 116, 97, 103, 101]⟩ : ByteArray) _ _ l0 t739 _ ?side1 ?side2 ?side3 A9.out).mono ?_); (case side1 => repeat (first | exact (Kd.C_below HR0.out HB.out) | (with_reducible refine Kd.C_alloc ?_ _) | (with_reducible refine Kd.C_drewN ?_ _) | (with_reducible refine Kd.C_drew ?_))); (case side2 => exact HC0.out); (case side3 => exact GW.below HG.out bl); rintro e w12 ⟨rfl, hb⟩; have n0_ := Aside0.mk (below_step bl hb); clear HB; have HB := n0_; clear n0_; (try clear hb); (try clear hb2); (try clear hk); (try clear hi))); try go_wp2_with (first | (go_at_call 14; (with_reducible refine (sequencer_Check.calls k (⟨#[115, 116, 97, 103, 101]⟩ : ByteArray) _ _ l0 t739 _ ?side1 ?side2 ?side3 A9.out).mono ?_); (case side1 => repeat (first | exact (Kd.C_below HR0.out HB.out) | (with_reducible refine Kd.C_alloc ?_ _) | (with_reducible refine Kd.C_drewN ?_ _) | (with_reducible refine Kd.C_drew ?_))); (case side2 => exact HC0.out); (case side3 => exact GW.below HG.out bl); rintro e w12 ⟨rfl, hb⟩; have n0_ := Aside0.mk (below_step bl hb); clear HB; have HB := n0_; clear n0_; (try clear hb); (try clear hb2); (try clear hk); (try clear hi))))
      go_meet
      case rel => exact ⟨_, (true), (by first | rfl | (simp; done) | (simp [*]; done)), H', ⟨by first | omega | exact Nat.le_refl _⟩, ⟨bl⟩⟩
     ·
      rw [if_neg c11] at H
      have c11b0 : decide (a2 < 1) = false := decide_eq_false c11
      clear c11
      have H' := Aside0.mk H
      clear H
      go_wp2_with (first | (go_at_call 14; (with_reducible refine (sequencer_Check.calls k (⟨#[115, 116, 97, 103, 101]⟩ : ByteArray) _ _ l0 t739 _ ?side1 ?side2 ?side3 A9.out).mono ?_); (case side1 => repeat (first | exact (Kd.C_below HR0.out HB.out) | (with_reducible refine Kd.C_alloc ?_ _) | (with_reducible refine Kd.C_drewN ?_ _) | (with_reducible refine Kd.C_drew ?_))); (case side2 => exact HC0.out); (case side3 => exact GW.below HG.out bl); rintro e w13 ⟨rfl, hb⟩; have n0_ := Aside0.mk (below_step bl hb); clear HB; have HB := n0_; clear n0_; (try clear hb); (try clear hb2); (try clear hk); (try clear hi)))
      repeat (go_quiet (first | (go_at_call 14; (with_reducible refine (sequencer_Check.calls k (⟨#[115, 116, 97, 103, 101]⟩ : ByteArray) _ _ l0 t739 _ ?side1 ?side2 ?side3 A9.out).mono ?_); (case side1 => repeat (first | exact (Kd.C_below HR0.out HB.out) | (with_reducible refine Kd.C_alloc ?_ _) | (with_reducible refine Kd.C_drewN ?_ _) | (with_reducible refine Kd.C_drew ?_))); (case side2 => exact HC0.out); (case side3 => exact GW.below HG.out bl); rintro e w13 ⟨rfl, hb⟩; have n0_ := Aside0.mk (below_step bl hb); clear HB; have HB := n0_; clear n0_; (try clear hb); (try clear hb2); (try clear hk); (try clear hi))); try go_wp2_with (first | (go_at_call 14; (with_reducible refine (sequencer_Check.calls k (⟨#[115, 116, 97, 103, 101]⟩ : ByteArray) _ _ l0 t739 _ ?side1 ?side2 ?side3 A9.out).mono ?_); (case side1 => repeat (first | exact (Kd.C_below HR0.out HB.out) | (with_reducible refine Kd.C_alloc ?_ _) | (with_reducible refine Kd.C_drewN ?_ _) | (with_reducible refine Kd.C_drew ?_))); (case side2 => exact HC0.out); (case side3 => exact GW.below HG.out bl); rintro e w13 ⟨rfl, hb⟩; have n0_ := Aside0.mk (below_step bl hb); clear HB; have HB := n0_; clear n0_; (try clear hb); (try clear hb2); (try clear hk); (try clear hi))))
      go_meet
      case rel => exact ⟨_, (decide (a2 > 86400)), (by first | rfl | (simp; done) | (simp [*]; done)), H', ⟨by first | omega | exact Nat.le_refl _⟩, ⟨bl⟩⟩
    ·
     rw [if_neg c10] at H
     have c10b0 : (t739 == 0) = false := beq_eq_false_iff_ne.mpr c10
     have c10b1 : (t739 != 0) = true := bne_iff_ne.mpr c10
     have H' := Aside0.mk H
     clear H
     go_wp2_with (first | (go_at_call 14; (with_reducible refine (sequencer_Check.calls k (⟨#[115, 116, 97, 103, 101]⟩ : ByteArray) _ _ l0 t739 _ ?side1 ?side2 ?side3 A9.out).mono ?_); (case side1 => repeat (first | exact (Kd.C_below HR0.out HB.out) | (with_reducible refine Kd.C_alloc ?_ _) | (with_reducible refine Kd.C_drewN ?_ _) | (with_reducible refine Kd.C_drew ?_))); (case side2 => exact HC0.out); (case side3 => exact GW.below HG.out bl); rintro e w14 ⟨rfl, hb⟩; have n0_ := Aside0.mk (below_step bl hb); clear HB; have HB := n0_; clear n0_; (try clear hb); (try clear hb2); (try clear hk); (try clear hi)))
     repeat (go_quiet (first | (go_at_call 14; (with_reducible refine (sequencer_Check.calls k (⟨#[115, 116, 97, 103, 101]⟩ : ByteArray) _ _ l0 t739 _ ?side1 ?side2 ?side3 A9.out).mono ?_); (case side1 => repeat (first | exact (Kd.C_below HR0.out HB.out) | (with_reducible refine Kd.C_alloc ?_ _) | (with_reducible refine Kd.C_drewN ?_ _) | (with_reducible refine Kd.C_drew ?_))); (case side2 => exact HC0.out); (case side3 => exact GW.below HG.out bl); rintro e w14 ⟨rfl, hb⟩; have n0_ := Aside0.mk (below_step bl hb); clear HB; have HB := n0_; clear n0_; (try clear hb); (try clear hb2); (try clear hk); (try clear hi))); try go_wp2_with (first | (go_at_call 14; (with_reducible refine (sequencer_Check.calls k (⟨#[115, 116, 97, 103, 101]⟩ : ByteArray) _ _ l0 t739 _ ?side1 ?side2 ?side3 A9.out).mono ?_); (case side1 => repeat (first | exact (Kd.C_below HR0.out HB.out) | (with_reducible refine Kd.C_alloc ?_ _) | (with_reducible refine Kd.C_drewN ?_ _) | (with_reducible refine Kd.C_drew ?_))); (case side2 => exact HC0.out); (case side3 => exact GW.below HG.out bl); rintro e w14 ⟨rfl, hb⟩; have n0_ := Aside0.mk (below_step bl hb); clear HB; have HB := n0_; clear n0_; (try clear hb); (try clear hb2); (try clear hk); (try clear hi))))
     go_meet
     case rel => exact ⟨_, (true), (by first | rfl | (simp; done) | (simp [*]; done)), H', ⟨by first | omega | exact Nat.le_refl _⟩, ⟨bl⟩⟩
  case rest =>
   clear HC6
   try clear c1
   try clear p2
   try clear c5
   try clear c6
   try clear c8
   try clear c8b0
   try clear c8b1
   try clear c10
   try clear c10b0
   try clear c10b1
   try clear c11
   try clear c11b0
   obtain ⟨kq, x32_5, rfl, HA, HJ5, HB⟩ := hcut
   cases kq with
   | zero => exact absurd HA.out (by simp [plenumlaw21_SequencerDelays.j0])
   | succ kj5 =>
    have H := HA.out
    clear HA
    simp only [plenumlaw21_SequencerDelays.j0] at H
    by_cases c15 : x32_5 = true
    ·
     subst c15
     have H1 : (some true) = some r := by rw [if_pos rfl] at H; exact H
     clear H
     have H := H1
     clear H1
     obtain rfl := Option.some.inj H
     go_wp2
     repeat (go_quiet (fail); try go_wp2)
     go_ret
     exact ⟨by first | rfl | (simp [errW_none, errW_some] <;> rfl) | (simp [*, errW_none, errW_some] <;> rfl), bl⟩
    ·
     replace c15 := Bool.eq_false_iff.mpr c15
     subst c15
     have H1 : (plenumlaw21_SequencerDelays.l0 kj5 l0 l1 a2 0) = some r := by rw [if_neg (show ¬ (false = true) by decide)] at H; exact H
     clear H
     have H := H1
     clear H1
     have H' := Aside0.mk H
     clear H
     go_wp2
     repeat (go_quiet (fail); try go_wp2)
     go_loopg [7] kj5 (fun kq v7 w' => ∃ (x7_2 : Int), v7 = .int .i64 x7_2 ∧ Aside0 (plenumlaw21_SequencerDelays.l0 kq l0 l1 a2 x7_2 = some r) ∧ Aside0 (kq ≤ kj5) ∧ Aside0 (Below w.heap.size w w'))
     case atStart => exact ⟨(0), (by first | rfl | (simp; done) | (simp [*]; done)), H', ⟨Nat.le_refl _⟩, ⟨bl⟩⟩
     case round =>
      clear H'
      try clear c1
      try clear p2
      try clear c5
      try clear c6
      try clear c8
      try clear c8b0
      try clear c8b1
      try clear c10
      try clear c10b0
      try clear c10b1
      try clear c11
      try clear c11b0
      try clear c15
      try clear p2
      obtain ⟨x7_2, rfl, HA, HK2, HB⟩ := hrel
      cases gk with
      | zero => exact absurd HA.out (by simp [plenumlaw21_SequencerDelays.l0])
      | succ k2 =>
       have H := HA.out
       clear HA
       simp only [plenumlaw21_SequencerDelays.l0] at H
       by_cases c16 : x7_2 < (l1.length : Int)
       ·
        rw [if_pos c16] at H
        have c16b0 : decide (x7_2 < (l1.length : Int)) = true := decide_eq_true c16
        clear c16
        by_cases c17 : 0 ≤ x7_2
        ·
         rw [if_pos c17] at H
         have c17b0 : decide (0 ≤ x7_2) = true := decide_eq_true c17
         clear c17
         by_cases c18 : (rd l1 x7_2) < (-1000000000000)
         ·
          rw [if_pos c18] at H
          have c18b0 : decide ((rd l1 x7_2) < (-1000000000000)) = true := decide_eq_true c18
          clear c18
          obtain rfl := Option.some.inj H
          have p740 : 0 ≤ (x7_2 : Int) := of_decide_eq_true (by first | (with_reducible assumption) | assumption)
          have q740 : x7_2 < (l1.length : Int) := of_decide_eq_true (by first | (with_reducible assumption) | assumption)
          obtain ⟨ad740, e740, hx740_0⟩ := Kd.at_int HR1.out x7_2 p740 q740
          cases e740
          replace hx740_0 := (HB.out.cell (World.block_lt_of_cell? w _ hx740_0)).trans hx740_0
          replace p740 := eq_true p740
          replace q740 := eq_true q740
          go_wp2
          repeat (go_quiet (fail); try go_wp2)
          go_ret
          exact ⟨by first | rfl | (simp [errW_none, errW_some] <;> rfl) | (simp [*, errW_none, errW_some] <;> rfl), bl⟩
         ·
          rw [if_neg c18] at H
          have c18b0 : decide ((rd l1 x7_2) < (-1000000000000)) = false := decide_eq_false c18
          clear c18
          by_cases c19 : (rd l1 x7_2) > 1000000000000
          ·
           rw [if_pos c19] at H
           have c19b0 : decide (1000000000000 < (rd l1 x7_2)) = true := decide_eq_true c19
           clear c19
           obtain rfl := Option.some.inj H
           have p740 : 0 ≤ (x7_2 : Int) := of_decide_eq_true (by first | (with_reducible assumption) | assumption)
           have q740 : x7_2 < (l1.length : Int) := of_decide_eq_true (by first | (with_reducible assumption) | assumption)
           obtain ⟨ad740, e740, hx740_0⟩ := Kd.at_int HR1.out x7_2 p740 q740
           cases e740
           replace hx740_0 := (HB.out.cell (World.block_lt_of_cell? w _ hx740_0)).trans hx740_0
           replace p740 := eq_true p740
           replace q740 := eq_true q740
           have p741 : 0 ≤ (x7_2 : Int) := of_decide_eq_true (by first | (with_reducible assumption) | assumption)
           have q741 : x7_2 < (l1.length : Int) := of_decide_eq_true (by first | (with_reducible assumption) | assumption)
           obtain ⟨ad741, e741, hx741_0⟩ := Kd.at_int HR1.out x7_2 p741 q741
           obtain rfl : ad740 = ad741 := (by injection e741)
           replace hx741_0 := (HB.out.cell (World.block_lt_of_cell? w _ hx741_0)).trans hx741_0
           replace p741 := eq_true p741
           replace q741 := eq_true q741
           go_wp2
           repeat (go_quiet (fail); try go_wp2)
           go_ret
           exact ⟨by first | rfl | (simp [errW_none, errW_some] <;> rfl) | (simp [*, errW_none, errW_some] <;> rfl), bl⟩
          ·
           rw [if_neg c19] at H
           have c19b0 : decide (1000000000000 < (rd l1 x7_2)) = false := decide_eq_false c19
           clear c19
           have H' := Aside0.mk H
           clear H
           have p740 : 0 ≤ (x7_2 : Int) := of_decide_eq_true (by first | (with_reducible assumption) | assumption)
           have q740 : x7_2 < (l1.length : Int) := of_decide_eq_true (by first | (with_reducible assumption) | assumption)
           obtain ⟨ad740, e740, hx740_0⟩ := Kd.at_int HR1.out x7_2 p740 q740
           cases e740
           replace hx740_0 := (HB.out.cell (World.block_lt_of_cell? w _ hx740_0)).trans hx740_0
           replace p740 := eq_true p740
           replace q740 := eq_true q740
           have p741 : 0 ≤ (x7_2 : Int) := of_decide_eq_true (by first | (with_reducible assumption) | assumption)
           have q741 : x7_2 < (l1.length : Int) := of_decide_eq_true (by first | (with_reducible assumption) | assumption)
           obtain ⟨ad741, e741, hx741_0⟩ := Kd.at_int HR1.out x7_2 p741 q741
           obtain rfl : ad740 = ad741 := (by injection e741)
           replace hx741_0 := (HB.out.cell (World.block_lt_of_cell? w _ hx741_0)).trans hx741_0
           replace p741 := eq_true p741
           replace q741 := eq_true q741
           go_wp2
           repeat (go_quiet (fail); try go_wp2)
           go_roundg k2
           case measure => have := HJ5.out; have := HK2.out; omega
           case rel => exact ⟨(wrap64 (x7_2 + 1)), (by first | rfl | (simp; done) | (simp [*]; done)), H', ⟨by have := HJ5.out; have := HK2.out; omega⟩, ⟨bl⟩⟩
        ·
         rw [if_neg c17] at H
         exact absurd H (by simp)
       ·
        rw [if_neg c16] at H
        have c16b0 : decide (x7_2 < (l1.length : Int)) = false := decide_eq_false c16
        clear c16
        obtain ⟨y742, hy742⟩ : ∃ y_ : List Int, y_ = (([0, 0] : List Int)) := ⟨_, rfl⟩
        replace H : ((plenumlaw21_run.f k2 l0 y742 l1 a2).bind fun bt745 => (if bt745.2 = true then (plenumlaw21_SequencerDelays.l1 k2 l0 l1 a2 bt745.1 0 0) else (none))) = some r := by first | (rw [hy742]; with_reducible exact H) | (have H2_ := (Option.bind_some _ _).symm.trans H; rw [hy742]; with_reducible exact H2_) | (have H2_ := (Option.bind_some _ _).symm.trans H; with_reducible exact H2_) | with_reducible exact H | (rw [hy742]; exact H) | exact H
        have Ny742 := Aside0.mk hy742
        clear hy742
        replace H := Option.bind_eq_some_iff.mp H
        obtain ⟨⟨t745, t748⟩, A200, H⟩ := H
        replace H : (if t748 = true then (plenumlaw21_SequencerDelays.l1 k2 l0 l1 a2 t745 0 0) else (none)) = some r := H
        have A20 := Aside0.mk A200
        clear A200
        by_cases c21 : t748 = true
        ·
         subst c21
         have H1 : (plenumlaw21_SequencerDelays.l1 k2 l0 l1 a2 t745 0 0) = some r := by rw [if_pos rfl] at H; exact H
         clear H
         have H := H1
         clear H1
         have H' := Aside0.mk H
         clear H
         go_wp2_with (first | ((with_reducible refine gate_dst (N := 53) rfl ?_); refine Kd.R_lit (Kd.int .i64) _ 2 ?hg (N := 53) ?hd (xs := ([0, 0] : List Int)) (inner := [.int .i64 0, .int .i64 0]) (ok := fun _ => True) (okp := fun _ => True) ?hr ?hp (fun _ hk => hk) trivial (Below.refl _ _) (Nat.le_refl _) (by simp) ?_; (case hd => rfl); (case hg => rfl); (case hr => first | (go_simp; done) | (go_simp; rfl)); (case hp => exact (Reps.one (show Kd.M (Kd.int .i64) _ _ _ 0 [.int .i64 0] from rfl) (Reps.one (show Kd.M (Kd.int .i64) _ _ _ 0 [.int .i64 0] from rfl) (Reps.none _ _)))); intro v743 w22 ho23 hb hg_ hnew_; clear hg_ hnew_; (first | rw [← Ny742.out] at ho23 | (simp only [Int.reduceToNat] at ho23; rw [← Ny742.out] at ho23)); have n0_ := Aside0.mk (Kd.R_lower ho23 (below_size bl)); have n1_ := Aside0.mk (below_step bl hb); clear HB; have HO744 := n0_; have HB := n1_; clear n0_ n1_; clear hb ho23; obtain ⟨Ao24, co24, eo24⟩ := Kd.R_slice HO744.out; subst eo24) | (go_at_call 22; (with_reducible refine (plenumlaw21_run.calls k2 _ _ l0 (fun k_ => some k_ = (.slice Ao24 y742.length co24 : Value).ownBlock) _ _ y742 _ _ l1 a2 t745 true _ ?side1 ?side2 ?side3 ?side4 ?side5 ?side6 A20.out).mono ?_); (case side1 => repeat (first | exact (Kd.C_below HR0.out HB.out) | (with_reducible refine Kd.C_alloc ?_ _) | (with_reducible refine Kd.C_drewN ?_ _) | (with_reducible refine Kd.C_drew ?_))); (case side2 => exact HC0.out); (case side3 => exact Kd.R_V (Kd.R_tight rfl (HO744.out))); (case side4 => repeat (first | exact (Kd.C_below HR1.out HB.out) | (with_reducible refine Kd.C_alloc ?_ _) | (with_reducible refine Kd.C_drewN ?_ _) | (with_reducible refine Kd.C_drew ?_))); (case side5 => exact HC1.out); (case side6 => exact GW.below HG.out bl); rintro e w25 ⟨v746, rfl, ho0, hb⟩; have n0_ := Aside0.mk (Kd.R_elder' (by (with_reducible repeat (first | apply Kd.R_alloc | apply Kd.R_drewN | apply Kd.R_drew)); exact HO744.out) (Kd.R_base ho0) hb); have n1_ := Aside0.mk (Kd.R_lower (Kd.R_new' (Kd.R_mono (ok' := fun k_ => True) ho0 (fun _ hk_ => trivial)) (Kd.R_lt (by (with_reducible repeat (first | apply Kd.R_alloc | apply Kd.R_drewN | apply Kd.R_drew)); exact HO744.out))) (below_size bl)); have n2_ := Aside0.mk (below_step bl hb); clear HO744; clear HB; have HO744 := n0_; have HO747 := n1_; have HB := n2_; clear n0_ n1_ n2_; (try clear hb); (try clear hb2); (try clear hk); (try clear hi); (try clear ho0)))
         repeat (go_quiet (first | ((with_reducible refine gate_dst (N := 53) rfl ?_); refine Kd.R_lit (Kd.int .i64) _ 2 ?hg (N := 53) ?hd (xs := ([0, 0] : List Int)) (inner := [.int .i64 0, .int .i64 0]) (ok := fun _ => True) (okp := fun _ => True) ?hr ?hp (fun _ hk => hk) trivial (Below.refl _ _) (Nat.le_refl _) (by simp) ?_; (case hd => rfl); (case hg => rfl); (case hr => first | (go_simp; done) | (go_simp; rfl)); (case hp => exact (Reps.one (show Kd.M (Kd.int .i64) _ _ _ 0 [.int .i64 0] from rfl) (Reps.one (show Kd.M (Kd.int .i64) _ _ _ 0 [.int .i64 0] from rfl) (Reps.none _ _)))); intro v743 w22 ho23 hb hg_ hnew_; clear hg_ hnew_; (first | rw [← Ny742.out] at ho23 | (simp only [Int.reduceToNat] at ho23; rw [← Ny742.out] at ho23)); have n0_ := Aside0.mk (Kd.R_lower ho23 (below_size bl)); have n1_ := Aside0.mk (below_step bl hb); clear HB; have HO744 := n0_; have HB := n1_; clear n0_ n1_; clear hb ho23; obtain ⟨Ao24, co24, eo24⟩ := Kd.R_slice HO744.out; subst eo24) | (go_at_call 22; (with_reducible refine (plenumlaw21_run.calls k2 _ _ l0 (fun k_ => some k_ = (.slice Ao24 y742.length co24 : Value).ownBlock) _ _ y742 _ _ l1 a2 t745 true _ ?side1 ?side2 ?side3 ?side4 ?side5 ?side6 A20.out).mono ?_); (case side1 => repeat (first | exact (Kd.C_below HR0.out HB.out) | (with_reducible refine Kd.C_alloc ?_ _) | (with_reducible refine Kd.C_drewN ?_ _) | (with_reducible refine Kd.C_drew ?_))); (case side2 => exact HC0.out); (case side3 => exact Kd.R_V (Kd.R_tight rfl (HO744.out))); (case side4 => repeat (first | exact (Kd.C_below HR1.out HB.out) | (with_reducible refine Kd.C_alloc ?_ _) | (with_reducible refine Kd.C_drewN ?_ _) | (with_reducible refine Kd.C_drew ?_))); (case side5 => exact HC1.out); (case side6 => exact GW.below HG.out bl); rintro e w25 ⟨v746, rfl, ho0, hb⟩; have n0_ := Aside0.mk (Kd.R_elder' (by (with_reducible repeat (first | apply Kd.R_alloc | apply Kd.R_drewN | apply Kd.R_drew)); exact HO744.out) (Kd.R_base ho0) hb); have n1_ := Aside0.mk (Kd.R_lower (Kd.R_new' (Kd.R_mono (ok' := fun k_ => True) ho0 (fun _ hk_ => trivial)) (Kd.R_lt (by (with_reducible repeat (first | apply Kd.R_alloc | apply Kd.R_drewN | apply Kd.R_drew)); exact HO744.out))) (below_size bl)); have n2_ := Aside0.mk (below_step bl hb); clear HO744; clear HB; have HO744 := n0_; have HO747 := n1_; have HB := n2_; clear n0_ n1_ n2_; (try clear hb); (try clear hb2); (try clear hk); (try clear hi); (try clear ho0))); try go_wp2_with (first | ((with_reducible refine gate_dst (N := 53) rfl ?_); refine Kd.R_lit (Kd.int .i64) _ 2 ?hg (N := 53) ?hd (xs := ([0, 0] : List Int)) (inner := [.int .i64 0, .int .i64 0]) (ok := fun _ => True) (okp := fun _ => True) ?hr ?hp (fun _ hk => hk) trivial (Below.refl _ _) (Nat.le_refl _) (by simp) ?_; (case hd => rfl); (case hg => rfl); (case hr => first | (go_simp; done) | (go_simp; rfl)); (case hp => exact (Reps.one (show Kd.M (Kd.int .i64) _ _ _ 0 [.int .i64 0] from rfl) (Reps.one (show Kd.M (Kd.int .i64) _ _ _ 0 [.int .i64 0] from rfl) (Reps.none _ _)))); intro v743 w22 ho23 hb hg_ hnew_; clear hg_ hnew_; (first | rw [← Ny742.out] at ho23 | (simp only [Int.reduceToNat] at ho23; rw [← Ny742.out] at ho23)); have n0_ := Aside0.mk (Kd.R_lower ho23 (below_size bl)); have n1_ := Aside0.mk (below_step bl hb); clear HB; have HO744 := n0_; have HB := n1_; clear n0_ n1_; clear hb ho23; obtain ⟨Ao24, co24, eo24⟩ := Kd.R_slice HO744.out; subst eo24) | (go_at_call 22; (with_reducible refine (plenumlaw21_run.calls k2 _ _ l0 (fun k_ => some k_ = (.slice Ao24 y742.length co24 : Value).ownBlock) _ _ y742 _ _ l1 a2 t745 true _ ?side1 ?side2 ?side3 ?side4 ?side5 ?side6 A20.out).mono ?_); (case side1 => repeat (first | exact (Kd.C_below HR0.out HB.out) | (with_reducible refine Kd.C_alloc ?_ _) | (with_reducible refine Kd.C_drewN ?_ _) | (with_reducible refine Kd.C_drew ?_))); (case side2 => exact HC0.out); (case side3 => exact Kd.R_V (Kd.R_tight rfl (HO744.out))); (case side4 => repeat (first | exact (Kd.C_below HR1.out HB.out) | (with_reducible refine Kd.C_alloc ?_ _) | (with_reducible refine Kd.C_drewN ?_ _) | (with_reducible refine Kd.C_drew ?_))); (case side5 => exact HC1.out); (case side6 => exact GW.below HG.out bl); rintro e w25 ⟨v746, rfl, ho0, hb⟩; have n0_ := Aside0.mk (Kd.R_elder' (by (with_reducible repeat (first | apply Kd.R_alloc | apply Kd.R_drewN | apply Kd.R_drew)); exact HO744.out) (Kd.R_base ho0) hb); have n1_ := Aside0.mk (Kd.R_lower (Kd.R_new' (Kd.R_mono (ok' := fun k_ => True) ho0 (fun _ hk_ => trivial)) (Kd.R_lt (by (with_reducible repeat (first | apply Kd.R_alloc | apply Kd.R_drewN | apply Kd.R_drew)); exact HO744.out))) (below_size bl)); have n2_ := Aside0.mk (below_step bl hb); clear HO744; clear HB; have HO744 := n0_; have HO747 := n1_; have HB := n2_; clear n0_ n1_ n2_; (try clear hb); (try clear hb2); (try clear hk); (try clear hi); (try clear ho0))))
         go_loopg [10, 11] k2 (fun kq v10 v11 w' => ∃ (x10_3 : Int) (x11_3 : Int), v10 = .int .i64 x10_3 ∧ v11 = .int .i64 x11_3 ∧ Aside0 (plenumlaw21_SequencerDelays.l1 kq l0 l1 a2 t745 x10_3 x11_3 = some r) ∧ Aside0 (kq ≤ k2) ∧ Aside0 (Kd.R (Kd.int .i64) 2 w' w.heap.size (fun _ => True) v746 t745) ∧ Aside0 (Below w.heap.size w w'))
         case atStart => exact ⟨(0), (0), (by first | rfl | (simp; done) | (simp [*]; done)), (by first | rfl | (simp; done) | (simp [*]; done)), H', ⟨Nat.le_refl _⟩, ⟨by (with_reducible repeat (first | apply Kd.R_alloc | apply Kd.R_drewN | apply Kd.R_drew)); exact Kd.R_mono HO747.out (fun _ hk => trivial)⟩, ⟨bl⟩⟩
         case round =>
          clear H'
          try clear c1
          try clear c2
          try clear p2
          try clear c5
          try clear c6
          try clear p6
          try clear p7
          try clear q7
          try clear hx7
          try clear c8
          try clear c8b0
          try clear c8b1
          try clear c10
          try clear c10b0
          try clear c10b1
          try clear c11
          try clear c11b0
          try clear c15
          try clear c16
          try clear c16b0
          try clear c17
          try clear c17b0
          try clear c18
          try clear c18b0
          try clear c19
          try clear c19b0
          try clear c21
          try clear hx740_0
          try clear hx741_0
          try clear p2
          try clear p740
          try clear p741
          try clear q740
          try clear q741
          obtain ⟨x10_3, x11_3, rfl, rfl, HA, HK3, HO_8, HB⟩ := hrel
          cases gk with
          | zero => exact absurd HA.out (by simp [plenumlaw21_SequencerDelays.l1])
          | succ k3 =>
           have H := HA.out
           clear HA
           simp only [plenumlaw21_SequencerDelays.l1] at H
           by_cases c26 : x11_3 < (t745.length : Int)
           ·
            rw [if_pos c26] at H
            have c26b0 : decide (x11_3 < (t745.length : Int)) = true := decide_eq_true c26
            clear c26
            by_cases c27 : 0 ≤ x11_3
            ·
             rw [if_pos c27] at H
             have c27b0 : decide (0 ≤ x11_3) = true := decide_eq_true c27
             clear c27
             have HC28 := Aside0.mk H
             clear H
             obtain ⟨Ao29, co29, eo29⟩ := Kd.R_slice HO_8.out
             subst eo29
             have p749 : 0 ≤ (x11_3 : Int) := of_decide_eq_true (by first | (with_reducible assumption) | assumption)
             have q749 : x11_3 < (t745.length : Int) := of_decide_eq_true (by first | (with_reducible assumption) | assumption)
             obtain ⟨ad749, e749, hx749_0⟩ := Kd.at_int (Kd.R_reads' HO_8.out).2.2 x11_3 p749 q749
             cases e749
             replace p749 := eq_true p749
             replace q749 := eq_true q749
             have p750 : 0 ≤ (x11_3 : Int) := of_decide_eq_true (by first | (with_reducible assumption) | assumption)
             have q750 : x11_3 < (t745.length : Int) := of_decide_eq_true (by first | (with_reducible assumption) | assumption)
             obtain ⟨ad750, e750, hx750_0⟩ := Kd.at_int (Kd.R_reads' HO_8.out).2.2 x11_3 p750 q750
             obtain rfl : ad749 = ad750 := (by injection e750)
             replace p750 := eq_true p750
             replace q750 := eq_true q750
             go_upto_region 19 with (fail)
             repeat (go_quiet (fail); go_upto_region 19 with (fail))
             go_cut [93] (fun v93 wc => ∃ (kq : Nat) (x93_27 : Bool), v93 = .bool x93_27 ∧ Aside0 (plenumlaw21_SequencerDelays.j3 kq l0 l1 a2 t745 (rd t745 x11_3) x11_3 (wrap64 ((rd t745 x11_3) - x10_3)) x93_27 = some r) ∧ Aside0 (kq ≤ k3) ∧ Aside0 (Kd.R (Kd.int .i64) 2 wc w.heap.size (fun _ => True) (.slice (some ad749) t745.length co29) t745) ∧ Aside0 (Below w.heap.size w wc))
             case first =>
              have H := HC28.out
              clear HC28
              by_cases c30 : (wrap64 ((rd t745 x11_3) - x10_3)) < (-1)
              ·
               rw [if_pos c30] at H
               have c30b0 : decide ((wrap64 ((rd t745 x11_3) - x10_3)) < (-1)) = true := decide_eq_true c30
               clear c30
               (first | rw [c30b0] | (simp only [i64_w, i32_w]; rw [c30b0]) | skip)
               have H' := Aside0.mk H
               clear H
               go_wp2
               repeat (go_quiet (fail); try go_wp2)
               go_meet
               case rel => exact ⟨_, (true), (by first | rfl | (simp; done) | (simp [*]; done)), H', ⟨by have := HJ5.out; have := HK2.out; have := HK3.out; first | omega | exact Nat.le_refl _⟩, ⟨by (with_reducible repeat (first | apply Kd.R_alloc | apply Kd.R_drewN | apply Kd.R_drew)); exact HO_8.out⟩, ⟨bl⟩⟩
              ·
               rw [if_neg c30] at H
               have c30b0 : decide ((wrap64 ((rd t745 x11_3) - x10_3)) < (-1)) = false := decide_eq_false c30
               clear c30
               (first | rw [c30b0] | (simp only [i64_w, i32_w]; rw [c30b0]) | skip)
               by_cases c31 : (wrap64 ((rd t745 x11_3) - x10_3)) > 1
               ·
                rw [if_pos c31] at H
                have c31b0 : decide (1 < (wrap64 ((rd t745 x11_3) - x10_3))) = true := decide_eq_true c31
                clear c31
                have H' := Aside0.mk H
                clear H
                go_wp2
                repeat (go_quiet (fail); try go_wp2)
                go_meet
                case rel => exact ⟨_, (true), (by first | rfl | (simp; done) | (simp [*]; done)), H', ⟨by have := HJ5.out; have := HK2.out; have := HK3.out; first | omega | exact Nat.le_refl _⟩, ⟨by (with_reducible repeat (first | apply Kd.R_alloc | apply Kd.R_drewN | apply Kd.R_drew)); exact HO_8.out⟩, ⟨bl⟩⟩
               ·
                rw [if_neg c31] at H
                have c31b0 : decide (1 < (wrap64 ((rd t745 x11_3) - x10_3))) = false := decide_eq_false c31
                clear c31
                by_cases c32 : (rd t745 x11_3) < 0
                ·
                 rw [if_pos c32] at H
                 have c32b0 : decide ((rd t745 x11_3) < 0) = true := decide_eq_true c32
                 clear c32
                 have H' := Aside0.mk H
                 clear H
                 go_wp2
                 repeat (go_quiet (fail); try go_wp2)
                 go_meet
                 case rel => exact ⟨_, (true), (by first | rfl | (simp; done) | (simp [*]; done)), H', ⟨by have := HJ5.out; have := HK2.out; have := HK3.out; first | omega | exact Nat.le_refl _⟩, ⟨by (with_reducible repeat (first | apply Kd.R_alloc | apply Kd.R_drewN | apply Kd.R_drew)); exact HO_8.out⟩, ⟨bl⟩⟩
                ·
                 rw [if_neg c32] at H
                 have c32b0 : decide ((rd t745 x11_3) < 0) = false := decide_eq_false c32
                 clear c32
                 by_cases c33 : 0 < (l0.length : Int)
                 ·
                  rw [if_pos c33] at H
                  have c33b0 : decide (0 < (l0.length : Int)) = true := decide_eq_true c33
                  have c33b1 : decide (0 < l0.length) = true := decide_eq_true (by omega)
                  clear c33
                  have H' := Aside0.mk H
                  clear H
                  have p751 : 0 ≤ (0 : Int) := (by omega)
                  have q751 : 0 < (l0.length : Int) := of_decide_eq_true (by first | (with_reducible assumption) | assumption)
                  obtain ⟨ad751, e751, hx751_0⟩ := Kd.at_int HR0.out 0 p751 q751
                  cases e751
                  have qi751 : (0 < l0.length) = True := eq_true (by omega)
                  (try rw [show ((0 : Int)).toNat = 0 from rfl] at hx751_0)
                  (try rw [Addr.add_zero'] at hx751_0)
                  replace hx751_0 := (HB.out.cell (World.block_lt_of_cell? w _ hx751_0)).trans hx751_0
                  replace p751 := eq_true p751
                  replace q751 := eq_true q751
                  go_wp2
                  repeat (go_quiet (fail); try go_wp2)
                  go_meet
                  case rel => exact ⟨_, (decide ((rd t745 x11_3) > (rd l0 0))), (by first | rfl | (simp; done) | (simp [*]; done)), H', ⟨by have := HJ5.out; have := HK2.out; have := HK3.out; first | omega | exact Nat.le_refl _⟩, ⟨by (with_reducible repeat (first | apply Kd.R_alloc | apply Kd.R_drewN | apply Kd.R_drew)); exact HO_8.out⟩, ⟨bl⟩⟩
                 ·
                  rw [if_neg c33] at H
                  exact absurd H (by simp)
             case rest =>
              clear HC28
              try clear c1
              try clear c2
              try clear p2
              try clear c3
              try clear c5
              try clear c6
              try clear p6
              try clear p7
              try clear q7
              try clear hx7
              try clear qi7
              try clear c8
              try clear c8b0
              try clear c8b1
              try clear c10
              try clear c10b0
              try clear c10b1
              try clear c11
              try clear c11b0
              try clear c15
              try clear c16
              try clear c16b0
              try clear c17
              try clear c17b0
              try clear c18
              try clear c18b0
              try clear c19
              try clear c19b0
              try clear c21
              try clear c26
              try clear c26b0
              try clear c27
              try clear c27b0
              try clear c30
              try clear c30b0
              try clear c31
              try clear c31b0
              try clear c32
              try clear c32b0
              try clear c33
              try clear c33b0
              try clear c33b1
              try clear hx740_0
              try clear hx741_0
              try clear hx749_0
              try clear hx750_0
              try clear hx751_0
              try clear p2
              try clear p6
              try clear p7
              try clear p740
              try clear p741
              try clear p749
              try clear p750
              try clear p751
              try clear q7
              try clear q740
              try clear q741
              try clear q749
              try clear q750
              try clear q751
              obtain ⟨kq, x93_27, rfl, HA, HJ27, HO_8, HB⟩ := hcut
              cases kq with
              | zero => exact absurd HA.out (by simp [plenumlaw21_SequencerDelays.j3])
              | succ kj27 =>
               have H := HA.out
               clear HA
               simp only [plenumlaw21_SequencerDelays.j3] at H
               by_cases c34 : x93_27 = true
               ·
                subst c34
                have H1 : (none) = some r := by rw [if_pos rfl] at H; exact H
                clear H
                have H := H1
                clear H1
                exact absurd H (by simp)
               ·
                replace c34 := Bool.eq_false_iff.mpr c34
                subst c34
                have H1 : (plenumlaw21_SequencerDelays.l2 kj27 l0 l1 a2 t745 (rd t745 x11_3) x11_3 (wrap64 ((rd t745 x11_3) - x10_3)) x11_3) = some r := by rw [if_neg (show ¬ (false = true) by decide)] at H; exact H
                clear H
                have H := H1
                clear H1
                have H' := Aside0.mk H
                clear H
                go_wp2
                repeat (go_quiet (fail); try go_wp2)
                go_loopg [13] kj27 (fun kq v13 w' => ∃ (x13_5 : Int), v13 = .int .i64 x13_5 ∧ Aside0 (plenumlaw21_SequencerDelays.l2 kq l0 l1 a2 t745 (rd t745 x11_3) x11_3 (wrap64 ((rd t745 x11_3) - x10_3)) x13_5 = some r) ∧ Aside0 (kq ≤ kj27) ∧ Aside0 (Kd.R (Kd.int .i64) 2 w' w.heap.size (fun _ => True) (.slice (some ad749) t745.length co29) t745) ∧ Aside0 (Below w.heap.size w w'))
                case atStart => exact ⟨(x11_3), (by first | rfl | (simp; done) | (simp [*]; done)), H', ⟨Nat.le_refl _⟩, ⟨by (with_reducible repeat (first | apply Kd.R_alloc | apply Kd.R_drewN | apply Kd.R_drew)); exact HO_8.out⟩, ⟨bl⟩⟩
                case round =>
                 clear H'
                 try clear c1
                 try clear c2
                 try clear p2
                 try clear c3
                 try clear c5
                 try clear c6
                 try clear p6
                 try clear p7
                 try clear q7
                 try clear hx7
                 try clear qi7
                 try clear c8
                 try clear c8b0
                 try clear c8b1
                 try clear c10
                 try clear c10b0
                 try clear c10b1
                 try clear c11
                 try clear c11b0
                 try clear c15
                 try clear c16
                 try clear c16b0
                 try clear c17
                 try clear c17b0
                 try clear c18
                 try clear c18b0
                 try clear c19
                 try clear c19b0
                 try clear c21
                 try clear c26
                 try clear c26b0
                 try clear c27
                 try clear c27b0
                 try clear c30
                 try clear c30b0
                 try clear c31
                 try clear c31b0
                 try clear c32
                 try clear c32b0
                 try clear c33
                 try clear c33b0
                 try clear c33b1
                 try clear c34
                 try clear hx740_0
                 try clear hx741_0
                 try clear hx749_0
                 try clear hx750_0
                 try clear hx751_0
                 try clear p2
                 try clear p6
                 try clear p7
                 try clear p740
                 try clear p741
                 try clear p749
                 try clear p750
                 try clear p751
                 try clear q7
                 try clear q740
                 try clear q741
                 try clear q749
                 try clear q750
                 try clear q751
                 obtain ⟨x13_5, rfl, HA, HK5, HO_8, HB⟩ := hrel
                 cases gk with
                 | zero => exact absurd HA.out (by simp [plenumlaw21_SequencerDelays.l2])
                 | succ k5 =>
                  have H := HA.out
                  clear HA
                  simp only [plenumlaw21_SequencerDelays.l2] at H
                  have HC35 := Aside0.mk H
                  clear H
                  go_upto_region 22 with (fail)
                  repeat (go_quiet (fail); go_upto_region 22 with (fail))
                  go_cut [100] (fun v100 wc => ∃ (kq : Nat) (x100_34 : Bool), v100 = .bool x100_34 ∧ Aside0 (plenumlaw21_SequencerDelays.j5 kq l0 l1 a2 t745 (rd t745 x11_3) x11_3 (wrap64 ((rd t745 x11_3) - x10_3)) x13_5 x100_34 = some r) ∧ Aside0 (kq ≤ k5) ∧ Aside0 (Kd.R (Kd.int .i64) 2 wc w.heap.size (fun _ => True) (.slice (some ad749) t745.length co29) t745) ∧ Aside0 (Below w.heap.size w wc))
                  case first =>
                   have H := HC35.out
                   clear HC35
                   by_cases c36 : (wrap64 ((rd t745 x11_3) - x10_3)) = 0
                   ·
                    rw [if_pos c36] at H
                    have c36b0 : ((wrap64 ((rd t745 x11_3) - x10_3)) == 0) = true := beq_iff_eq.mpr c36
                    have c36b1 : ((wrap64 ((rd t745 x11_3) - x10_3)) != 0) = false := bne_eq_false_iff_eq.mpr c36
                    clear c36
                    (first | rw [c36b0] | (simp only [i64_w, i32_w]; rw [c36b0]) | skip)
                    have H' := Aside0.mk H
                    clear H
                    go_wp2
                    repeat (go_quiet (fail); try go_wp2)
                    go_meet
                    case rel => exact ⟨_, (false), (by first | rfl | (simp; done) | (simp [*]; done)), H', ⟨by have := HJ5.out; have := HK2.out; have := HK3.out; have := HJ27.out; have := HK5.out; first | omega | exact Nat.le_refl _⟩, ⟨by (with_reducible repeat (first | apply Kd.R_alloc | apply Kd.R_drewN | apply Kd.R_drew)); exact HO_8.out⟩, ⟨bl⟩⟩
                   ·
                    rw [if_neg c36] at H
                    have c36b0 : ((wrap64 ((rd t745 x11_3) - x10_3)) == 0) = false := beq_eq_false_iff_ne.mpr c36
                    have c36b1 : ((wrap64 ((rd t745 x11_3) - x10_3)) != 0) = true := bne_iff_ne.mpr c36
                    (first | rw [c36b0] | (simp only [i64_w, i32_w]; rw [c36b0]) | skip)
                    have H' := Aside0.mk H
                    clear H
                    go_wp2
                    repeat (go_quiet (fail); try go_wp2)
                    go_meet
                    case rel => exact ⟨_, (decide (x13_5 ≥ 0)), (by first | rfl | (simp; done) | (simp [*]; done)), H', ⟨by have := HJ5.out; have := HK2.out; have := HK3.out; have := HJ27.out; have := HK5.out; first | omega | exact Nat.le_refl _⟩, ⟨by (with_reducible repeat (first | apply Kd.R_alloc | apply Kd.R_drewN | apply Kd.R_drew)); exact HO_8.out⟩, ⟨bl⟩⟩
                  case rest =>
                   clear HC35
                   try clear c1
                   try clear c2
                   try clear p2
                   try clear c3
                   try clear c5
                   try clear c6
                   try clear p6
                   try clear p7
                   try clear q7
                   try clear hx7
                   try clear qi7
                   try clear c8
                   try clear c8b0
                   try clear c8b1
                   try clear c10
                   try clear c10b0
                   try clear c10b1
                   try clear c11
                   try clear c11b0
                   try clear c15
                   try clear c16
                   try clear c16b0
                   try clear c17
                   try clear c17b0
                   try clear c18
                   try clear c18b0
                   try clear c19
                   try clear c19b0
                   try clear c21
                   try clear c26
                   try clear c26b0
                   try clear c27
                   try clear c27b0
                   try clear c30
                   try clear c30b0
                   try clear c31
                   try clear c31b0
                   try clear c32
                   try clear c32b0
                   try clear c33
                   try clear c33b0
                   try clear c33b1
                   try clear c34
                   try clear c36
                   try clear c36b0
                   try clear c36b1
                   try clear hx740_0
                   try clear hx741_0
                   try clear hx749_0
                   try clear hx750_0
                   try clear hx751_0
                   try clear p2
                   try clear p6
                   try clear p7
                   try clear p740
                   try clear p741
                   try clear p749
                   try clear p750
                   try clear p751
                   try clear q7
                   try clear q740
                   try clear q741
                   try clear q749
                   try clear q750
                   try clear q751
                   obtain ⟨kq, x100_34, rfl, HA, HJ34, HO_8, HB⟩ := hcut
                   cases kq with
                   | zero => exact absurd HA.out (by simp [plenumlaw21_SequencerDelays.j5])
                   | succ kj34 =>
                    have H := HA.out
                    clear HA
                    simp only [plenumlaw21_SequencerDelays.j5] at H
                    by_cases c37 : x100_34 = true
                    ·
                     subst c37
                     have H1 : (if (wrap64 ((rd t745 x11_3) - x10_3)) = 1 then (if x13_5 = x11_3 then (if 0 ≤ x13_5 then (if x13_5 < (l1.length : Int) then (if 1 < (l0.length : Int) then (if (rd l1 x13_5) ≤ (rd l0 1) then (none) else (if (wrap64 ((rd t745 x11_3) - x10_3)) = (-1) then (if 2 < (l0.length : Int) then (if (rd l1 x13_5) ≥ (rd l0 2) then (none) else (plenumlaw21_SequencerDelays.l2 kj34 l0 l1 a2 t745 (rd t745 x11_3) x11_3 (wrap64 ((rd t745 x11_3) - x10_3)) (wrap64 (x13_5 - 1)))) else (none)) else (plenumlaw21_SequencerDelays.l2 kj34 l0 l1 a2 t745 (rd t745 x11_3) x11_3 (wrap64 ((rd t745 x11_3) - x10_3)) (wrap64 (x13_5 - 1))))) else (none)) else (none)) else (none)) else (if 3 < (l0.length : Int) then (if (wrap64 ((wrap64 (x11_3 - x13_5)) * a2)) < (rd l0 3) then (if 0 ≤ x13_5 then (if x13_5 < (l1.length : Int) then (if 1 < (l0.length : Int) then (if (rd l1 x13_5) ≤ (rd l0 1) then (none) else (if (wrap64 ((rd t745 x11_3) - x10_3)) = (-1) then (if 4 < (l0.length : Int) then (if (wrap64 ((wrap64 (x11_3 - x13_5)) * a2)) < (rd l0 4) then (if 2 < (l0.length : Int) then (if (rd l1 x13_5) ≥ (rd l0 2) then (none) else (plenumlaw21_SequencerDelays.l2 kj34 l0 l1 a2 t745 (rd t745 x11_3) x11_3 (wrap64 ((rd t745 x11_3) - x10_3)) (wrap64 (x13_5 - 1)))) else (none)) else (plenumlaw21_SequencerDelays.l2 kj34 l0 l1 a2 t745 (rd t745 x11_3) x11_3 (wrap64 ((rd t745 x11_3) - x10_3)) (wrap64 (x13_5 - 1)))) else (none)) else (plenumlaw21_SequencerDelays.l2 kj34 l0 l1 a2 t745 (rd t745 x11_3) x11_3 (wrap64 ((rd t745 x11_3) - x10_3)) (wrap64 (x13_5 - 1))))) else (none)) else (none)) else (none)) else (if (wrap64 ((rd t745 x11_3) - x10_3)) = (-1) then (if 4 < (l0.length : Int) then (if (wrap64 ((wrap64 (x11_3 - x13_5)) * a2)) < (rd l0 4) then (if 0 ≤ x13_5 then (if x13_5 < (l1.length : Int) then (if 2 < (l0.length : Int) then (if (rd l1 x13_5) ≥ (rd l0 2) then (none) else (plenumlaw21_SequencerDelays.l2 kj34 l0 l1 a2 t745 (rd t745 x11_3) x11_3 (wrap64 ((rd t745 x11_3) - x10_3)) (wrap64 (x13_5 - 1)))) else (none)) else (none)) else (none)) else (plenumlaw21_SequencerDelays.l2 kj34 l0 l1 a2 t745 (rd t745 x11_3) x11_3 (wrap64 ((rd t745 x11_3) - x10_3)) (wrap64 (x13_5 - 1)))) else (none)) else (plenumlaw21_SequencerDelays.l2 kj34 l0 l1 a2 t745 (rd t745 x11_3) x11_3 (wrap64 ((rd t745 x11_3) - x10_3)) (wrap64 (x13_5 - 1))))) else (none))) else (if (wrap64 ((rd t745 x11_3) - x10_3)) = (-1) then (if x13_5 = x11_3 then (if 0 ≤ x13_5 then (if x13_5 < (l1.length : Int) then (if 2 < (l0.length : Int) then (if (rd l1 x13_5) ≥ (rd l0 2) then (none) else (plenumlaw21_SequencerDelays.l2 kj34 l0 l1 a2 t745 (rd t745 x11_3) x11_3 (wrap64 ((rd t745 x11_3) - x10_3)) (wrap64 (x13_5 - 1)))) else (none)) else (none)) else (none)) else (if 4 < (l0.length : Int) then (if (wrap64 ((wrap64 (x11_3 - x13_5)) * a2)) < (rd l0 4) then (if 0 ≤ x13_5 then (if x13_5 < (l1.length : Int) then (if 2 < (l0.length : Int) then (if (rd l1 x13_5) ≥ (rd l0 2) then (none) else (plenumlaw21_SequencerDelays.l2 kj34 l0 l1 a2 t745 (rd t745 x11_3) x11_3 (wrap64 ((rd t745 x11_3) - x10_3)) (wrap64 (x13_5 - 1)))) else (none)) else (none)) else (none)) else (plenumlaw21_SequencerDelays.l2 kj34 l0 l1 a2 t745 (rd t745 x11_3) x11_3 (wrap64 ((rd t745 x11_3) - x10_3)) (wrap64 (x13_5 - 1)))) else (none))) else (plenumlaw21_SequencerDelays.l2 kj34 l0 l1 a2 t745 (rd t745 x11_3) x11_3 (wrap64 ((rd t745 x11_3) - x10_3)) (wrap64 (x13_5 - 1))))) = some r := by rw [if_pos rfl] at H; exact H
                     clear H
                     have H := H1
                     clear H1
                     by_cases c38 : (wrap64 ((rd t745 x11_3) - x10_3)) = 1
                     ·
                      rw [if_pos c38] at H
                      have c38b0 : ((wrap64 ((rd t745 x11_3) - x10_3)) == 1) = true := beq_iff_eq.mpr c38
                      have c38b1 : ((wrap64 ((rd t745 x11_3) - x10_3)) != 1) = false := bne_eq_false_iff_eq.mpr c38
                      clear c38
                      by_cases c39 : x13_5 = x11_3
                      ·
                       rw [if_pos c39] at H
                       have c39b0 : (x13_5 == x11_3) = true := beq_iff_eq.mpr c39
                       have c39b1 : (x13_5 != x11_3) = false := bne_eq_false_iff_eq.mpr c39
                       clear c39
                       by_cases c40 : 0 ≤ x13_5
                       ·
                        rw [if_pos c40] at H
                        have c40b0 : decide (0 ≤ x13_5) = true := decide_eq_true c40
                        clear c40
                        by_cases c41 : x13_5 < (l1.length : Int)
                        ·
                         rw [if_pos c41] at H
                         have c41b0 : decide (x13_5 < (l1.length : Int)) = true := decide_eq_true c41
                         clear c41
                         by_cases c42 : 1 < (l0.length : Int)
                         ·
                          rw [if_pos c42] at H
                          have c42b0 : decide (1 < (l0.length : Int)) = true := decide_eq_true c42
                          have c42b1 : decide (1 < l0.length) = true := decide_eq_true (by omega)
                          clear c42
                          by_cases c43 : (rd l1 x13_5) ≤ (rd l0 1)
                          ·
                           rw [if_pos c43] at H
                           exact absurd H (by simp)
                          ·
                           rw [if_neg c43] at H
                           have c43b0 : decide ((rd l1 x13_5) ≤ (rd l0 1)) = false := decide_eq_false c43
                           clear c43
                           by_cases c44 : (wrap64 ((rd t745 x11_3) - x10_3)) = (-1)
                           ·
                            rw [if_pos c44] at H
                            have c44b0 : ((wrap64 ((rd t745 x11_3) - x10_3)) == (-1)) = true := beq_iff_eq.mpr c44
                            have c44b1 : ((wrap64 ((rd t745 x11_3) - x10_3)) != (-1)) = false := bne_eq_false_iff_eq.mpr c44
                            clear c44
                            by_cases c45 : 2 < (l0.length : Int)
                            ·
                             rw [if_pos c45] at H
                             have c45b0 : decide (2 < (l0.length : Int)) = true := decide_eq_true c45
                             have c45b1 : decide (2 < l0.length) = true := decide_eq_true (by omega)
                             clear c45
                             by_cases c46 : (rd l1 x13_5) ≥ (rd l0 2)
                             ·
                              rw [if_pos c46] at H
                              exact absurd H (by simp)
                             ·
                              rw [if_neg c46] at H
                              have c46b0 : decide ((rd l0 2) ≤ (rd l1 x13_5)) = false := decide_eq_false c46
                              clear c46
                              have H' := Aside0.mk H
                              clear H
                              have p752 : 0 ≤ (x13_5 : Int) := of_decide_eq_true (by first | (with_reducible assumption) | assumption)
                              have q752 : x13_5 < (l1.length : Int) := of_decide_eq_true (by first | (with_reducible assumption) | assumption)
                              obtain ⟨ad752, e752, hx752_0⟩ := Kd.at_int HR1.out x13_5 p752 q752
                              cases e752
                              replace hx752_0 := (HB.out.cell (World.block_lt_of_cell? w _ hx752_0)).trans hx752_0
                              replace p752 := eq_true p752
                              replace q752 := eq_true q752
                              have p753 : 0 ≤ (1 : Int) := (by omega)
                              have q753 : 1 < (l0.length : Int) := of_decide_eq_true (by first | (with_reducible assumption) | assumption)
                              obtain ⟨ad753, e753, hx753_0⟩ := Kd.at_int HR0.out 1 p753 q753
                              cases e753
                              (try simp only [show (1 : Int).toNat = 1 from rfl, Nat.reduceMul, Nat.reduceEqDiff, Go.Addr.add, ↓reduceIte] at hx753_0)
                              have qi753 : (1 < l0.length) = True := eq_true (by omega)
                              (try rw [show ((1 : Int)).toNat = 1 from rfl] at hx753_0)
                              replace hx753_0 := (HB.out.cell (World.block_lt_of_cell? w _ hx753_0)).trans hx753_0
                              replace p753 := eq_true p753
                              replace q753 := eq_true q753
                              have p754 : 0 ≤ (x13_5 : Int) := of_decide_eq_true (by first | (with_reducible assumption) | assumption)
                              have q754 : x13_5 < (l1.length : Int) := of_decide_eq_true (by first | (with_reducible assumption) | assumption)
                              obtain ⟨ad754, e754, hx754_0⟩ := Kd.at_int HR1.out x13_5 p754 q754
                              obtain rfl : ad752 = ad754 := (by injection e754)
                              replace hx754_0 := (HB.out.cell (World.block_lt_of_cell? w _ hx754_0)).trans hx754_0
                              replace p754 := eq_true p754
                              replace q754 := eq_true q754
                              have p755 : 0 ≤ (2 : Int) := (by omega)
                              have q755 : 2 < (l0.length : Int) := of_decide_eq_true (by first | (with_reducible assumption) | assumption)
                              obtain ⟨ad755, e755, hx755_0⟩ := Kd.at_int HR0.out 2 p755 q755
                              obtain rfl : ad753 = ad755 := (by injection e755)
                              (try simp only [show (2 : Int).toNat = 2 from rfl, Nat.reduceMul, Nat.reduceEqDiff, Go.Addr.add, ↓reduceIte] at hx755_0)
                              have qi755 : (2 < l0.length) = True := eq_true (by omega)
                              (try rw [show ((2 : Int)).toNat = 2 from rfl] at hx755_0)
                              replace hx755_0 := (HB.out.cell (World.block_lt_of_cell? w _ hx755_0)).trans hx755_0
                              replace p755 := eq_true p755
                              replace q755 := eq_true q755
                              go_wp2
                              repeat (go_quiet (fail); try go_wp2)
                              go_roundg kj34
                              case measure => have := HJ5.out; have := HK2.out; have := HK3.out; have := HJ27.out; have := HK5.out; have := HJ34.out; omega
                              case rel => exact ⟨(wrap64 (x13_5 - 1)), (by first | rfl | (simp; done) | (simp [*]; done)), H', ⟨by have := HJ5.out; have := HK2.out; have := HK3.out; have := HJ27.out; have := HK5.out; have := HJ34.out; omega⟩, ⟨by (with_reducible repeat (first | apply Kd.R_alloc | apply Kd.R_drewN | apply Kd.R_drew)); exact HO_8.out⟩, ⟨bl⟩⟩
                            ·
                             rw [if_neg c45] at H
                             exact absurd H (by simp)
                           ·
                            rw [if_neg c44] at H
                            have c44b0 : ((wrap64 ((rd t745 x11_3) - x10_3)) == (-1)) = false := beq_eq_false_iff_ne.mpr c44
                            have c44b1 : ((wrap64 ((rd t745 x11_3) - x10_3)) != (-1)) = true := bne_iff_ne.mpr c44
                            have H' := Aside0.mk H
                            clear H
                            have p752 : 0 ≤ (x13_5 : Int) := of_decide_eq_true (by first | (with_reducible assumption) | assumption)
                            have q752 : x13_5 < (l1.length : Int) := of_decide_eq_true (by first | (with_reducible assumption) | assumption)
                            obtain ⟨ad752, e752, hx752_0⟩ := Kd.at_int HR1.out x13_5 p752 q752
                            cases e752
                            replace hx752_0 := (HB.out.cell (World.block_lt_of_cell? w _ hx752_0)).trans hx752_0
                            replace p752 := eq_true p752
                            replace q752 := eq_true q752
                            have p753 : 0 ≤ (1 : Int) := (by omega)
                            have q753 : 1 < (l0.length : Int) := of_decide_eq_true (by first | (with_reducible assumption) | assumption)
                            obtain ⟨ad753, e753, hx753_0⟩ := Kd.at_int HR0.out 1 p753 q753
                            cases e753
                            (try simp only [show (1 : Int).toNat = 1 from rfl, Nat.reduceMul, Nat.reduceEqDiff, Go.Addr.add, ↓reduceIte] at hx753_0)
                            have qi753 : (1 < l0.length) = True := eq_true (by omega)
                            (try rw [show ((1 : Int)).toNat = 1 from rfl] at hx753_0)
                            replace hx753_0 := (HB.out.cell (World.block_lt_of_cell? w _ hx753_0)).trans hx753_0
                            replace p753 := eq_true p753
                            replace q753 := eq_true q753
                            go_wp2
                            repeat (go_quiet (fail); try go_wp2)
                            go_roundg kj34
                            case measure => have := HJ5.out; have := HK2.out; have := HK3.out; have := HJ27.out; have := HK5.out; have := HJ34.out; omega
                            case rel => exact ⟨(wrap64 (x13_5 - 1)), (by first | rfl | (simp; done) | (simp [*]; done)), H', ⟨by have := HJ5.out; have := HK2.out; have := HK3.out; have := HJ27.out; have := HK5.out; have := HJ34.out; omega⟩, ⟨by (with_reducible repeat (first | apply Kd.R_alloc | apply Kd.R_drewN | apply Kd.R_drew)); exact HO_8.out⟩, ⟨bl⟩⟩
                         ·
                          rw [if_neg c42] at H
                          exact absurd H (by simp)
                        ·
                         rw [if_neg c41] at H
                         exact absurd H (by simp)
                       ·
                        rw [if_neg c40] at H
                        exact absurd H (by simp)
                      ·
                       rw [if_neg c39] at H
                       have c39b0 : (x13_5 == x11_3) = false := beq_eq_false_iff_ne.mpr c39
                       have c39b1 : (x13_5 != x11_3) = true := bne_iff_ne.mpr c39
                       by_cases c47 : 3 < (l0.length : Int)
                       ·
                        rw [if_pos c47] at H
                        have c47b0 : decide (3 < (l0.length : Int)) = true := decide_eq_true c47
                        have c47b1 : decide (3 < l0.length) = true := decide_eq_true (by omega)
                        clear c47
                        by_cases c48 : (wrap64 ((wrap64 (x11_3 - x13_5)) * a2)) < (rd l0 3)
                        ·
                         rw [if_pos c48] at H
                         have c48b0 : decide ((wrap64 ((wrap64 (x11_3 - x13_5)) * a2)) < (rd l0 3)) = true := decide_eq_true c48
                         clear c48
                         by_cases c49 : 0 ≤ x13_5
                         ·
                          rw [if_pos c49] at H
                          have c49b0 : decide (0 ≤ x13_5) = true := decide_eq_true c49
                          clear c49
                          by_cases c50 : x13_5 < (l1.length : Int)
                          ·
                           rw [if_pos c50] at H
                           have c50b0 : decide (x13_5 < (l1.length : Int)) = true := decide_eq_true c50
                           clear c50
                           by_cases c51 : 1 < (l0.length : Int)
                           ·
                            rw [if_pos c51] at H
                            have c51b0 : decide (1 < (l0.length : Int)) = true := decide_eq_true c51
                            have c51b1 : decide (1 < l0.length) = true := decide_eq_true (by omega)
                            clear c51
                            by_cases c52 : (rd l1 x13_5) ≤ (rd l0 1)
                            ·
                             rw [if_pos c52] at H
                             exact absurd H (by simp)
                            ·
                             rw [if_neg c52] at H
                             have c52b0 : decide ((rd l1 x13_5) ≤ (rd l0 1)) = false := decide_eq_false c52
                             clear c52
                             by_cases c53 : (wrap64 ((rd t745 x11_3) - x10_3)) = (-1)
                             ·
                              rw [if_pos c53] at H
                              have c53b0 : ((wrap64 ((rd t745 x11_3) - x10_3)) == (-1)) = true := beq_iff_eq.mpr c53
                              have c53b1 : ((wrap64 ((rd t745 x11_3) - x10_3)) != (-1)) = false := bne_eq_false_iff_eq.mpr c53
                              clear c53
                              by_cases c54 : 4 < (l0.length : Int)
                              ·
                               rw [if_pos c54] at H
                               have c54b0 : decide (4 < (l0.length : Int)) = true := decide_eq_true c54
                               have c54b1 : decide (4 < l0.length) = true := decide_eq_true (by omega)
                               clear c54
                               by_cases c55 : (wrap64 ((wrap64 (x11_3 - x13_5)) * a2)) < (rd l0 4)
                               ·
                                rw [if_pos c55] at H
                                have c55b0 : decide ((wrap64 ((wrap64 (x11_3 - x13_5)) * a2)) < (rd l0 4)) = true := decide_eq_true c55
                                clear c55
                                by_cases c56 : 2 < (l0.length : Int)
                                ·
                                 rw [if_pos c56] at H
                                 have c56b0 : decide (2 < (l0.length : Int)) = true := decide_eq_true c56
                                 have c56b1 : decide (2 < l0.length) = true := decide_eq_true (by omega)
                                 clear c56
                                 by_cases c57 : (rd l1 x13_5) ≥ (rd l0 2)
                                 ·
                                  rw [if_pos c57] at H
                                  exact absurd H (by simp)
                                 ·
                                  rw [if_neg c57] at H
                                  have c57b0 : decide ((rd l0 2) ≤ (rd l1 x13_5)) = false := decide_eq_false c57
                                  clear c57
                                  have H' := Aside0.mk H
                                  clear H
                                  have p756 : 0 ≤ (3 : Int) := (by omega)
                                  have q756 : 3 < (l0.length : Int) := of_decide_eq_true (by first | (with_reducible assumption) | assumption)
                                  obtain ⟨ad756, e756, hx756_0⟩ := Kd.at_int HR0.out 3 p756 q756
                                  cases e756
                                  (try simp only [show (3 : Int).toNat = 3 from rfl, Nat.reduceMul, Nat.reduceEqDiff, Go.Addr.add, ↓reduceIte] at hx756_0)
                                  have qi756 : (3 < l0.length) = True := eq_true (by omega)
                                  (try rw [show ((3 : Int)).toNat = 3 from rfl] at hx756_0)
                                  replace hx756_0 := (HB.out.cell (World.block_lt_of_cell? w _ hx756_0)).trans hx756_0
                                  replace p756 := eq_true p756
                                  replace q756 := eq_true q756
                                  have p757 : 0 ≤ (x13_5 : Int) := of_decide_eq_true (by first | (with_reducible assumption) | assumption)
                                  have q757 : x13_5 < (l1.length : Int) := of_decide_eq_true (by first | (with_reducible assumption) | assumption)
                                  obtain ⟨ad757, e757, hx757_0⟩ := Kd.at_int HR1.out x13_5 p757 q757
                                  cases e757
                                  replace hx757_0 := (HB.out.cell (World.block_lt_of_cell? w _ hx757_0)).trans hx757_0
                                  replace p757 := eq_true p757
                                  replace q757 := eq_true q757
                                  have p758 : 0 ≤ (1 : Int) := (by omega)
                                  have q758 : 1 < (l0.length : Int) := of_decide_eq_true (by first | (with_reducible assumption) | assumption)
                                  obtain ⟨ad758, e758, hx758_0⟩ := Kd.at_int HR0.out 1 p758 q758
                                  obtain rfl : ad756 = ad758 := (by injection e758)
                                  (try simp only [show (1 : Int).toNat = 1 from rfl, Nat.reduceMul, Nat.reduceEqDiff, Go.Addr.add, ↓reduceIte] at hx758_0)
                                  have qi758 : (1 < l0.length) = True := eq_true (by omega)
                                  (try rw [show ((1 : Int)).toNat = 1 from rfl] at hx758_0)
                                  replace hx758_0 := (HB.out.cell (World.block_lt_of_cell? w _ hx758_0)).trans hx758_0
                                  replace p758 := eq_true p758
                                  replace q758 := eq_true q758
                                  have p759 : 0 ≤ (4 : Int) := (by omega)
                                  have q759 : 4 < (l0.length : Int) := of_decide_eq_true (by first | (with_reducible assumption) | assumption)
                                  obtain ⟨ad759, e759, hx759_0⟩ := Kd.at_int HR0.out 4 p759 q759
                                  obtain rfl : ad756 = ad759 := (by injection e759)
                                  (try simp only [show (4 : Int).toNat = 4 from rfl, Nat.reduceMul, Nat.reduceEqDiff, Go.Addr.add, ↓reduceIte] at hx759_0)
                                  have qi759 : (4 < l0.length) = True := eq_true (by omega)
                                  (try rw [show ((4 : Int)).toNat = 4 from rfl] at hx759_0)
                                  replace hx759_0 := (HB.out.cell (World.block_lt_of_cell? w _ hx759_0)).trans hx759_0
                                  replace p759 := eq_true p759
                                  replace q759 := eq_true q759
                                  have p760 : 0 ≤ (x13_5 : Int) := of_decide_eq_true (by first | (with_reducible assumption) | assumption)
                                  have q760 : x13_5 < (l1.length : Int) := of_decide_eq_true (by first | (with_reducible assumption) | assumption)
                                  obtain ⟨ad760, e760, hx760_0⟩ := Kd.at_int HR1.out x13_5 p760 q760
                                  obtain rfl : ad757 = ad760 := (by injection e760)
                                  replace hx760_0 := (HB.out.cell (World.block_lt_of_cell? w _ hx760_0)).trans hx760_0
                                  replace p760 := eq_true p760
                                  replace q760 := eq_true q760
                                  have p761 : 0 ≤ (2 : Int) := (by omega)
                                  have q761 : 2 < (l0.length : Int) := of_decide_eq_true (by first | (with_reducible assumption) | assumption)
                                  obtain ⟨ad761, e761, hx761_0⟩ := Kd.at_int HR0.out 2 p761 q761
                                  obtain rfl : ad756 = ad761 := (by injection e761)
                                  (try simp only [show (2 : Int).toNat = 2 from rfl, Nat.reduceMul, Nat.reduceEqDiff, Go.Addr.add, ↓reduceIte] at hx761_0)
                                  have qi761 : (2 < l0.length) = True := eq_true (by omega)
                                  (try rw [show ((2 : Int)).toNat = 2 from rfl] at hx761_0)
                                  replace hx761_0 := (HB.out.cell (World.block_lt_of_cell? w _ hx761_0)).trans hx761_0
                                  replace p761 := eq_true p761
                                  replace q761 := eq_true q761
                                  go_wp2
                                  repeat (go_quiet (fail); try go_wp2)
                                  go_roundg kj34
                                  case measure => have := HJ5.out; have := HK2.out; have := HK3.out; have := HJ27.out; have := HK5.out; have := HJ34.out; omega
                                  case rel => exact ⟨(wrap64 (x13_5 - 1)), (by first | rfl | (simp; done) | (simp [*]; done)), H', ⟨by have := HJ5.out; have := HK2.out; have := HK3.out; have := HJ27.out; have := HK5.out; have := HJ34.out; omega⟩, ⟨by (with_reducible repeat (first | apply Kd.R_alloc | apply Kd.R_drewN | apply Kd.R_drew)); exact HO_8.out⟩, ⟨bl⟩⟩
                                ·
                                 rw [if_neg c56] at H
                                 exact absurd H (by simp)
                               ·
                                rw [if_neg c55] at H
                                have c55b0 : decide ((wrap64 ((wrap64 (x11_3 - x13_5)) * a2)) < (rd l0 4)) = false := decide_eq_false c55
                                clear c55
                                have H' := Aside0.mk H
                                clear H
                                have p756 : 0 ≤ (3 : Int) := (by omega)
                                have q756 : 3 < (l0.length : Int) := of_decide_eq_true (by first | (with_reducible assumption) | assumption)
                                obtain ⟨ad756, e756, hx756_0⟩ := Kd.at_int HR0.out 3 p756 q756
                                cases e756
                                (try simp only [show (3 : Int).toNat = 3 from rfl, Nat.reduceMul, Nat.reduceEqDiff, Go.Addr.add, ↓reduceIte] at hx756_0)
                                have qi756 : (3 < l0.length) = True := eq_true (by omega)
                                (try rw [show ((3 : Int)).toNat = 3 from rfl] at hx756_0)
                                replace hx756_0 := (HB.out.cell (World.block_lt_of_cell? w _ hx756_0)).trans hx756_0
                                replace p756 := eq_true p756
                                replace q756 := eq_true q756
                                have p757 : 0 ≤ (x13_5 : Int) := of_decide_eq_true (by first | (with_reducible assumption) | assumption)
                                have q757 : x13_5 < (l1.length : Int) := of_decide_eq_true (by first | (with_reducible assumption) | assumption)
                                obtain ⟨ad757, e757, hx757_0⟩ := Kd.at_int HR1.out x13_5 p757 q757
                                cases e757
                                replace hx757_0 := (HB.out.cell (World.block_lt_of_cell? w _ hx757_0)).trans hx757_0
                                replace p757 := eq_true p757
                                replace q757 := eq_true q757
                                have p758 : 0 ≤ (1 : Int) := (by omega)
                                have q758 : 1 < (l0.length : Int) := of_decide_eq_true (by first | (with_reducible assumption) | assumption)
                                obtain ⟨ad758, e758, hx758_0⟩ := Kd.at_int HR0.out 1 p758 q758
                                obtain rfl : ad756 = ad758 := (by injection e758)
                                (try simp only [show (1 : Int).toNat = 1 from rfl, Nat.reduceMul, Nat.reduceEqDiff, Go.Addr.add, ↓reduceIte] at hx758_0)
                                have qi758 : (1 < l0.length) = True := eq_true (by omega)
                                (try rw [show ((1 : Int)).toNat = 1 from rfl] at hx758_0)
                                replace hx758_0 := (HB.out.cell (World.block_lt_of_cell? w _ hx758_0)).trans hx758_0
                                replace p758 := eq_true p758
                                replace q758 := eq_true q758
                                have p759 : 0 ≤ (4 : Int) := (by omega)
                                have q759 : 4 < (l0.length : Int) := of_decide_eq_true (by first | (with_reducible assumption) | assumption)
                                obtain ⟨ad759, e759, hx759_0⟩ := Kd.at_int HR0.out 4 p759 q759
                                obtain rfl : ad756 = ad759 := (by injection e759)
                                (try simp only [show (4 : Int).toNat = 4 from rfl, Nat.reduceMul, Nat.reduceEqDiff, Go.Addr.add, ↓reduceIte] at hx759_0)
                                have qi759 : (4 < l0.length) = True := eq_true (by omega)
                                (try rw [show ((4 : Int)).toNat = 4 from rfl] at hx759_0)
                                replace hx759_0 := (HB.out.cell (World.block_lt_of_cell? w _ hx759_0)).trans hx759_0
                                replace p759 := eq_true p759
                                replace q759 := eq_true q759
                                go_wp2
                                repeat (go_quiet (fail); try go_wp2)
                                go_roundg kj34
                                case measure => have := HJ5.out; have := HK2.out; have := HK3.out; have := HJ27.out; have := HK5.out; have := HJ34.out; omega
                                case rel => exact ⟨(wrap64 (x13_5 - 1)), (by first | rfl | (simp; done) | (simp [*]; done)), H', ⟨by have := HJ5.out; have := HK2.out; have := HK3.out; have := HJ27.out; have := HK5.out; have := HJ34.out; omega⟩, ⟨by (with_reducible repeat (first | apply Kd.R_alloc | apply Kd.R_drewN | apply Kd.R_drew)); exact HO_8.out⟩, ⟨bl⟩⟩
                              ·
                               rw [if_neg c54] at H
                               exact absurd H (by simp)
                             ·
                              rw [if_neg c53] at H
                              have c53b0 : ((wrap64 ((rd t745 x11_3) - x10_3)) == (-1)) = false := beq_eq_false_iff_ne.mpr c53
                              have c53b1 : ((wrap64 ((rd t745 x11_3) - x10_3)) != (-1)) = true := bne_iff_ne.mpr c53
                              have H' := Aside0.mk H
                              clear H
                              have p756 : 0 ≤ (3 : Int) := (by omega)
                              have q756 : 3 < (l0.length : Int) := of_decide_eq_true (by first | (with_reducible assumption) | assumption)
                              obtain ⟨ad756, e756, hx756_0⟩ := Kd.at_int HR0.out 3 p756 q756
                              cases e756
                              (try simp only [show (3 : Int).toNat = 3 from rfl, Nat.reduceMul, Nat.reduceEqDiff, Go.Addr.add, ↓reduceIte] at hx756_0)
                              have qi756 : (3 < l0.length) = True := eq_true (by omega)
                              (try rw [show ((3 : Int)).toNat = 3 from rfl] at hx756_0)
                              replace hx756_0 := (HB.out.cell (World.block_lt_of_cell? w _ hx756_0)).trans hx756_0
                              replace p756 := eq_true p756
                              replace q756 := eq_true q756
                              have p757 : 0 ≤ (x13_5 : Int) := of_decide_eq_true (by first | (with_reducible assumption) | assumption)
                              have q757 : x13_5 < (l1.length : Int) := of_decide_eq_true (by first | (with_reducible assumption) | assumption)
                              obtain ⟨ad757, e757, hx757_0⟩ := Kd.at_int HR1.out x13_5 p757 q757
                              cases e757
                              replace hx757_0 := (HB.out.cell (World.block_lt_of_cell? w _ hx757_0)).trans hx757_0
                              replace p757 := eq_true p757
                              replace q757 := eq_true q757
                              have p758 : 0 ≤ (1 : Int) := (by omega)
                              have q758 : 1 < (l0.length : Int) := of_decide_eq_true (by first | (with_reducible assumption) | assumption)
                              obtain ⟨ad758, e758, hx758_0⟩ := Kd.at_int HR0.out 1 p758 q758
                              obtain rfl : ad756 = ad758 := (by injection e758)
                              (try simp only [show (1 : Int).toNat = 1 from rfl, Nat.reduceMul, Nat.reduceEqDiff, Go.Addr.add, ↓reduceIte] at hx758_0)
                              have qi758 : (1 < l0.length) = True := eq_true (by omega)
                              (try rw [show ((1 : Int)).toNat = 1 from rfl] at hx758_0)
                              replace hx758_0 := (HB.out.cell (World.block_lt_of_cell? w _ hx758_0)).trans hx758_0
                              replace p758 := eq_true p758
                              replace q758 := eq_true q758
                              go_wp2
                              repeat (go_quiet (fail); try go_wp2)
                              go_roundg kj34
                              case measure => have := HJ5.out; have := HK2.out; have := HK3.out; have := HJ27.out; have := HK5.out; have := HJ34.out; omega
                              case rel => exact ⟨(wrap64 (x13_5 - 1)), (by first | rfl | (simp; done) | (simp [*]; done)), H', ⟨by have := HJ5.out; have := HK2.out; have := HK3.out; have := HJ27.out; have := HK5.out; have := HJ34.out; omega⟩, ⟨by (with_reducible repeat (first | apply Kd.R_alloc | apply Kd.R_drewN | apply Kd.R_drew)); exact HO_8.out⟩, ⟨bl⟩⟩
                           ·
                            rw [if_neg c51] at H
                            exact absurd H (by simp)
                          ·
                           rw [if_neg c50] at H
                           exact absurd H (by simp)
                         ·
                          rw [if_neg c49] at H
                          exact absurd H (by simp)
                        ·
                         rw [if_neg c48] at H
                         have c48b0 : decide ((wrap64 ((wrap64 (x11_3 - x13_5)) * a2)) < (rd l0 3)) = false := decide_eq_false c48
                         clear c48
                         by_cases c58 : (wrap64 ((rd t745 x11_3) - x10_3)) = (-1)
                         ·
                          rw [if_pos c58] at H
                          have c58b0 : ((wrap64 ((rd t745 x11_3) - x10_3)) == (-1)) = true := beq_iff_eq.mpr c58
                          have c58b1 : ((wrap64 ((rd t745 x11_3) - x10_3)) != (-1)) = false := bne_eq_false_iff_eq.mpr c58
                          clear c58
                          by_cases c59 : 4 < (l0.length : Int)
                          ·
                           rw [if_pos c59] at H
                           have c59b0 : decide (4 < (l0.length : Int)) = true := decide_eq_true c59
                           have c59b1 : decide (4 < l0.length) = true := decide_eq_true (by omega)
                           clear c59
                           by_cases c60 : (wrap64 ((wrap64 (x11_3 - x13_5)) * a2)) < (rd l0 4)
                           ·
                            rw [if_pos c60] at H
                            have c60b0 : decide ((wrap64 ((wrap64 (x11_3 - x13_5)) * a2)) < (rd l0 4)) = true := decide_eq_true c60
                            clear c60
                            by_cases c61 : 0 ≤ x13_5
                            ·
                             rw [if_pos c61] at H
                             have c61b0 : decide (0 ≤ x13_5) = true := decide_eq_true c61
                             clear c61
                             by_cases c62 : x13_5 < (l1.length : Int)
                             ·
                              rw [if_pos c62] at H
                              have c62b0 : decide (x13_5 < (l1.length : Int)) = true := decide_eq_true c62
                              clear c62
                              by_cases c63 : 2 < (l0.length : Int)
                              ·
                               rw [if_pos c63] at H
                               have c63b0 : decide (2 < (l0.length : Int)) = true := decide_eq_true c63
                               have c63b1 : decide (2 < l0.length) = true := decide_eq_true (by omega)
                               clear c63
                               by_cases c64 : (rd l1 x13_5) ≥ (rd l0 2)
                               ·
                                rw [if_pos c64] at H
                                exact absurd H (by simp)
                               ·
                                rw [if_neg c64] at H
                                have c64b0 : decide ((rd l0 2) ≤ (rd l1 x13_5)) = false := decide_eq_false c64
                                clear c64
                                have H' := Aside0.mk H
                                clear H
                                have p756 : 0 ≤ (3 : Int) := (by omega)
                                have q756 : 3 < (l0.length : Int) := of_decide_eq_true (by first | (with_reducible assumption) | assumption)
                                obtain ⟨ad756, e756, hx756_0⟩ := Kd.at_int HR0.out 3 p756 q756
                                cases e756
                                (try simp only [show (3 : Int).toNat = 3 from rfl, Nat.reduceMul, Nat.reduceEqDiff, Go.Addr.add, ↓reduceIte] at hx756_0)
                                have qi756 : (3 < l0.length) = True := eq_true (by omega)
                                (try rw [show ((3 : Int)).toNat = 3 from rfl] at hx756_0)
                                replace hx756_0 := (HB.out.cell (World.block_lt_of_cell? w _ hx756_0)).trans hx756_0
                                replace p756 := eq_true p756
                                replace q756 := eq_true q756
                                have p762 : 0 ≤ (4 : Int) := (by omega)
                                have q762 : 4 < (l0.length : Int) := of_decide_eq_true (by first | (with_reducible assumption) | assumption)
                                obtain ⟨ad762, e762, hx762_0⟩ := Kd.at_int HR0.out 4 p762 q762
                                obtain rfl : ad756 = ad762 := (by injection e762)
                                (try simp only [show (4 : Int).toNat = 4 from rfl, Nat.reduceMul, Nat.reduceEqDiff, Go.Addr.add, ↓reduceIte] at hx762_0)
                                have qi762 : (4 < l0.length) = True := eq_true (by omega)
                                (try rw [show ((4 : Int)).toNat = 4 from rfl] at hx762_0)
                                replace hx762_0 := (HB.out.cell (World.block_lt_of_cell? w _ hx762_0)).trans hx762_0
                                replace p762 := eq_true p762
                                replace q762 := eq_true q762
                                have p763 : 0 ≤ (x13_5 : Int) := of_decide_eq_true (by first | (with_reducible assumption) | assumption)
                                have q763 : x13_5 < (l1.length : Int) := of_decide_eq_true (by first | (with_reducible assumption) | assumption)
                                obtain ⟨ad763, e763, hx763_0⟩ := Kd.at_int HR1.out x13_5 p763 q763
                                cases e763
                                replace hx763_0 := (HB.out.cell (World.block_lt_of_cell? w _ hx763_0)).trans hx763_0
                                replace p763 := eq_true p763
                                replace q763 := eq_true q763
                                have p764 : 0 ≤ (2 : Int) := (by omega)
                                have q764 : 2 < (l0.length : Int) := of_decide_eq_true (by first | (with_reducible assumption) | assumption)
                                obtain ⟨ad764, e764, hx764_0⟩ := Kd.at_int HR0.out 2 p764 q764
                                obtain rfl : ad756 = ad764 := (by injection e764)
                                (try simp only [show (2 : Int).toNat = 2 from rfl, Nat.reduceMul, Nat.reduceEqDiff, Go.Addr.add, ↓reduceIte] at hx764_0)
                                have qi764 : (2 < l0.length) = True := eq_true (by omega)
                                (try rw [show ((2 : Int)).toNat = 2 from rfl] at hx764_0)
                                replace hx764_0 := (HB.out.cell (World.block_lt_of_cell? w _ hx764_0)).trans hx764_0
                                replace p764 := eq_true p764
                                replace q764 := eq_true q764
                                go_wp2
                                repeat (go_quiet (fail); try go_wp2)
                                go_roundg kj34
                                case measure => have := HJ5.out; have := HK2.out; have := HK3.out; have := HJ27.out; have := HK5.out; have := HJ34.out; omega
                                case rel => exact ⟨(wrap64 (x13_5 - 1)), (by first | rfl | (simp; done) | (simp [*]; done)), H', ⟨by have := HJ5.out; have := HK2.out; have := HK3.out; have := HJ27.out; have := HK5.out; have := HJ34.out; omega⟩, ⟨by (with_reducible repeat (first | apply Kd.R_alloc | apply Kd.R_drewN | apply Kd.R_drew)); exact HO_8.out⟩, ⟨bl⟩⟩
                              ·
                               rw [if_neg c63] at H
                               exact absurd H (by simp)
                             ·
                              rw [if_neg c62] at H
                              exact absurd H (by simp)
                            ·
                             rw [if_neg c61] at H
                             exact absurd H (by simp)
                           ·
                            rw [if_neg c60] at H
                            have c60b0 : decide ((wrap64 ((wrap64 (x11_3 - x13_5)) * a2)) < (rd l0 4)) = false := decide_eq_false c60
                            clear c60
                            have H' := Aside0.mk H
                            clear H
                            have p756 : 0 ≤ (3 : Int) := (by omega)
                            have q756 : 3 < (l0.length : Int) := of_decide_eq_true (by first | (with_reducible assumption) | assumption)
                            obtain ⟨ad756, e756, hx756_0⟩ := Kd.at_int HR0.out 3 p756 q756
                            cases e756
                            (try simp only [show (3 : Int).toNat = 3 from rfl, Nat.reduceMul, Nat.reduceEqDiff, Go.Addr.add, ↓reduceIte] at hx756_0)
                            have qi756 : (3 < l0.length) = True := eq_true (by omega)
                            (try rw [show ((3 : Int)).toNat = 3 from rfl] at hx756_0)
                            replace hx756_0 := (HB.out.cell (World.block_lt_of_cell? w _ hx756_0)).trans hx756_0
                            replace p756 := eq_true p756
                            replace q756 := eq_true q756
                            have p762 : 0 ≤ (4 : Int) := (by omega)
                            have q762 : 4 < (l0.length : Int) := of_decide_eq_true (by first | (with_reducible assumption) | assumption)
                            obtain ⟨ad762, e762, hx762_0⟩ := Kd.at_int HR0.out 4 p762 q762
                            obtain rfl : ad756 = ad762 := (by injection e762)
                            (try simp only [show (4 : Int).toNat = 4 from rfl, Nat.reduceMul, Nat.reduceEqDiff, Go.Addr.add, ↓reduceIte] at hx762_0)
                            have qi762 : (4 < l0.length) = True := eq_true (by omega)
                            (try rw [show ((4 : Int)).toNat = 4 from rfl] at hx762_0)
                            replace hx762_0 := (HB.out.cell (World.block_lt_of_cell? w _ hx762_0)).trans hx762_0
                            replace p762 := eq_true p762
                            replace q762 := eq_true q762
                            go_wp2
                            repeat (go_quiet (fail); try go_wp2)
                            go_roundg kj34
                            case measure => have := HJ5.out; have := HK2.out; have := HK3.out; have := HJ27.out; have := HK5.out; have := HJ34.out; omega
                            case rel => exact ⟨(wrap64 (x13_5 - 1)), (by first | rfl | (simp; done) | (simp [*]; done)), H', ⟨by have := HJ5.out; have := HK2.out; have := HK3.out; have := HJ27.out; have := HK5.out; have := HJ34.out; omega⟩, ⟨by (with_reducible repeat (first | apply Kd.R_alloc | apply Kd.R_drewN | apply Kd.R_drew)); exact HO_8.out⟩, ⟨bl⟩⟩
                          ·
                           rw [if_neg c59] at H
                           exact absurd H (by simp)
                         ·
                          rw [if_neg c58] at H
                          have c58b0 : ((wrap64 ((rd t745 x11_3) - x10_3)) == (-1)) = false := beq_eq_false_iff_ne.mpr c58
                          have c58b1 : ((wrap64 ((rd t745 x11_3) - x10_3)) != (-1)) = true := bne_iff_ne.mpr c58
                          have H' := Aside0.mk H
                          clear H
                          have p756 : 0 ≤ (3 : Int) := (by omega)
                          have q756 : 3 < (l0.length : Int) := of_decide_eq_true (by first | (with_reducible assumption) | assumption)
                          obtain ⟨ad756, e756, hx756_0⟩ := Kd.at_int HR0.out 3 p756 q756
                          cases e756
                          (try simp only [show (3 : Int).toNat = 3 from rfl, Nat.reduceMul, Nat.reduceEqDiff, Go.Addr.add, ↓reduceIte] at hx756_0)
                          have qi756 : (3 < l0.length) = True := eq_true (by omega)
                          (try rw [show ((3 : Int)).toNat = 3 from rfl] at hx756_0)
                          replace hx756_0 := (HB.out.cell (World.block_lt_of_cell? w _ hx756_0)).trans hx756_0
                          replace p756 := eq_true p756
                          replace q756 := eq_true q756
                          go_wp2
                          repeat (go_quiet (fail); try go_wp2)
                          go_roundg kj34
                          case measure => have := HJ5.out; have := HK2.out; have := HK3.out; have := HJ27.out; have := HK5.out; have := HJ34.out; omega
                          case rel => exact ⟨(wrap64 (x13_5 - 1)), (by first | rfl | (simp; done) | (simp [*]; done)), H', ⟨by have := HJ5.out; have := HK2.out; have := HK3.out; have := HJ27.out; have := HK5.out; have := HJ34.out; omega⟩, ⟨by (with_reducible repeat (first | apply Kd.R_alloc | apply Kd.R_drewN | apply Kd.R_drew)); exact HO_8.out⟩, ⟨bl⟩⟩
                       ·
                        rw [if_neg c47] at H
                        exact absurd H (by simp)
                     ·
                      rw [if_neg c38] at H
                      have c38b0 : ((wrap64 ((rd t745 x11_3) - x10_3)) == 1) = false := beq_eq_false_iff_ne.mpr c38
                      have c38b1 : ((wrap64 ((rd t745 x11_3) - x10_3)) != 1) = true := bne_iff_ne.mpr c38
                      by_cases c65 : (wrap64 ((rd t745 x11_3) - x10_3)) = (-1)
                      ·
                       rw [if_pos c65] at H
                       have c65b0 : ((wrap64 ((rd t745 x11_3) - x10_3)) == (-1)) = true := beq_iff_eq.mpr c65
                       have c65b1 : ((wrap64 ((rd t745 x11_3) - x10_3)) != (-1)) = false := bne_eq_false_iff_eq.mpr c65
                       clear c65
                       by_cases c66 : x13_5 = x11_3
                       ·
                        rw [if_pos c66] at H
                        have c66b0 : (x13_5 == x11_3) = true := beq_iff_eq.mpr c66
                        have c66b1 : (x13_5 != x11_3) = false := bne_eq_false_iff_eq.mpr c66
                        clear c66
                        by_cases c67 : 0 ≤ x13_5
                        ·
                         rw [if_pos c67] at H
                         have c67b0 : decide (0 ≤ x13_5) = true := decide_eq_true c67
                         clear c67
                         by_cases c68 : x13_5 < (l1.length : Int)
                         ·
                          rw [if_pos c68] at H
                          have c68b0 : decide (x13_5 < (l1.length : Int)) = true := decide_eq_true c68
                          clear c68
                          by_cases c69 : 2 < (l0.length : Int)
                          ·
                           rw [if_pos c69] at H
                           have c69b0 : decide (2 < (l0.length : Int)) = true := decide_eq_true c69
                           have c69b1 : decide (2 < l0.length) = true := decide_eq_true (by omega)
                           clear c69
                           by_cases c70 : (rd l1 x13_5) ≥ (rd l0 2)
                           ·
                            rw [if_pos c70] at H
                            exact absurd H (by simp)
                           ·
                            rw [if_neg c70] at H
                            have c70b0 : decide ((rd l0 2) ≤ (rd l1 x13_5)) = false := decide_eq_false c70
                            clear c70
                            have H' := Aside0.mk H
                            clear H
                            have p765 : 0 ≤ (x13_5 : Int) := of_decide_eq_true (by first | (with_reducible assumption) | assumption)
                            have q765 : x13_5 < (l1.length : Int) := of_decide_eq_true (by first | (with_reducible assumption) | assumption)
                            obtain ⟨ad765, e765, hx765_0⟩ := Kd.at_int HR1.out x13_5 p765 q765
                            cases e765
                            replace hx765_0 := (HB.out.cell (World.block_lt_of_cell? w _ hx765_0)).trans hx765_0
                            replace p765 := eq_true p765
                            replace q765 := eq_true q765
                            have p766 : 0 ≤ (2 : Int) := (by omega)
                            have q766 : 2 < (l0.length : Int) := of_decide_eq_true (by first | (with_reducible assumption) | assumption)
                            obtain ⟨ad766, e766, hx766_0⟩ := Kd.at_int HR0.out 2 p766 q766
                            cases e766
                            (try simp only [show (2 : Int).toNat = 2 from rfl, Nat.reduceMul, Nat.reduceEqDiff, Go.Addr.add, ↓reduceIte] at hx766_0)
                            have qi766 : (2 < l0.length) = True := eq_true (by omega)
                            (try rw [show ((2 : Int)).toNat = 2 from rfl] at hx766_0)
                            replace hx766_0 := (HB.out.cell (World.block_lt_of_cell? w _ hx766_0)).trans hx766_0
                            replace p766 := eq_true p766
                            replace q766 := eq_true q766
                            go_wp2
                            repeat (go_quiet (fail); try go_wp2)
                            go_roundg kj34
                            case measure => have := HJ5.out; have := HK2.out; have := HK3.out; have := HJ27.out; have := HK5.out; have := HJ34.out; omega
                            case rel => exact ⟨(wrap64 (x13_5 - 1)), (by first | rfl | (simp; done) | (simp [*]; done)), H', ⟨by have := HJ5.out; have := HK2.out; have := HK3.out; have := HJ27.out; have := HK5.out; have := HJ34.out; omega⟩, ⟨by (with_reducible repeat (first | apply Kd.R_alloc | apply Kd.R_drewN | apply Kd.R_drew)); exact HO_8.out⟩, ⟨bl⟩⟩
                          ·
                           rw [if_neg c69] at H
                           exact absurd H (by simp)
                         ·
                          rw [if_neg c68] at H
                          exact absurd H (by simp)
                        ·
                         rw [if_neg c67] at H
                         exact absurd H (by simp)
                       ·
                        rw [if_neg c66] at H
                        have c66b0 : (x13_5 == x11_3) = false := beq_eq_false_iff_ne.mpr c66
                        have c66b1 : (x13_5 != x11_3) = true := bne_iff_ne.mpr c66
                        by_cases c71 : 4 < (l0.length : Int)
                        ·
                         rw [if_pos c71] at H
                         have c71b0 : decide (4 < (l0.length : Int)) = true := decide_eq_true c71
                         have c71b1 : decide (4 < l0.length) = true := decide_eq_true (by omega)
                         clear c71
                         by_cases c72 : (wrap64 ((wrap64 (x11_3 - x13_5)) * a2)) < (rd l0 4)
                         ·
                          rw [if_pos c72] at H
                          have c72b0 : decide ((wrap64 ((wrap64 (x11_3 - x13_5)) * a2)) < (rd l0 4)) = true := decide_eq_true c72
                          clear c72
                          by_cases c73 : 0 ≤ x13_5
                          ·
                           rw [if_pos c73] at H
                           have c73b0 : decide (0 ≤ x13_5) = true := decide_eq_true c73
                           clear c73
                           by_cases c74 : x13_5 < (l1.length : Int)
                           ·
                            rw [if_pos c74] at H
                            have c74b0 : decide (x13_5 < (l1.length : Int)) = true := decide_eq_true c74
                            clear c74
                            by_cases c75 : 2 < (l0.length : Int)
                            ·
                             rw [if_pos c75] at H
                             have c75b0 : decide (2 < (l0.length : Int)) = true := decide_eq_true c75
                             have c75b1 : decide (2 < l0.length) = true := decide_eq_true (by omega)
                             clear c75
                             by_cases c76 : (rd l1 x13_5) ≥ (rd l0 2)
                             ·
                              rw [if_pos c76] at H
                              exact absurd H (by simp)
                             ·
                              rw [if_neg c76] at H
                              have c76b0 : decide ((rd l0 2) ≤ (rd l1 x13_5)) = false := decide_eq_false c76
                              clear c76
                              have H' := Aside0.mk H
                              clear H
                              have p767 : 0 ≤ (4 : Int) := (by omega)
                              have q767 : 4 < (l0.length : Int) := of_decide_eq_true (by first | (with_reducible assumption) | assumption)
                              obtain ⟨ad767, e767, hx767_0⟩ := Kd.at_int HR0.out 4 p767 q767
                              cases e767
                              (try simp only [show (4 : Int).toNat = 4 from rfl, Nat.reduceMul, Nat.reduceEqDiff, Go.Addr.add, ↓reduceIte] at hx767_0)
                              have qi767 : (4 < l0.length) = True := eq_true (by omega)
                              (try rw [show ((4 : Int)).toNat = 4 from rfl] at hx767_0)
                              replace hx767_0 := (HB.out.cell (World.block_lt_of_cell? w _ hx767_0)).trans hx767_0
                              replace p767 := eq_true p767
                              replace q767 := eq_true q767
                              have p768 : 0 ≤ (x13_5 : Int) := of_decide_eq_true (by first | (with_reducible assumption) | assumption)
                              have q768 : x13_5 < (l1.length : Int) := of_decide_eq_true (by first | (with_reducible assumption) | assumption)
                              obtain ⟨ad768, e768, hx768_0⟩ := Kd.at_int HR1.out x13_5 p768 q768
                              cases e768
                              replace hx768_0 := (HB.out.cell (World.block_lt_of_cell? w _ hx768_0)).trans hx768_0
                              replace p768 := eq_true p768
                              replace q768 := eq_true q768
                              have p769 : 0 ≤ (2 : Int) := (by omega)
                              have q769 : 2 < (l0.length : Int) := of_decide_eq_true (by first | (with_reducible assumption) | assumption)
                              obtain ⟨ad769, e769, hx769_0⟩ := Kd.at_int HR0.out 2 p769 q769
                              obtain rfl : ad767 = ad769 := (by injection e769)
                              (try simp only [show (2 : Int).toNat = 2 from rfl, Nat.reduceMul, Nat.reduceEqDiff, Go.Addr.add, ↓reduceIte] at hx769_0)
                              have qi769 : (2 < l0.length) = True := eq_true (by omega)
                              (try rw [show ((2 : Int)).toNat = 2 from rfl] at hx769_0)
                              replace hx769_0 := (HB.out.cell (World.block_lt_of_cell? w _ hx769_0)).trans hx769_0
                              replace p769 := eq_true p769
                              replace q769 := eq_true q769
                              go_wp2
                              repeat (go_quiet (fail); try go_wp2)
                              go_roundg kj34
                              case measure => have := HJ5.out; have := HK2.out; have := HK3.out; have := HJ27.out; have := HK5.out; have := HJ34.out; omega
                              case rel => exact ⟨(wrap64 (x13_5 - 1)), (by first | rfl | (simp; done) | (simp [*]; done)), H', ⟨by have := HJ5.out; have := HK2.out; have := HK3.out; have := HJ27.out; have := HK5.out; have := HJ34.out; omega⟩, ⟨by (with_reducible repeat (first | apply Kd.R_alloc | apply Kd.R_drewN | apply Kd.R_drew)); exact HO_8.out⟩, ⟨bl⟩⟩
                            ·
                             rw [if_neg c75] at H
                             exact absurd H (by simp)
                           ·
                            rw [if_neg c74] at H
                            exact absurd H (by simp)
                          ·
                           rw [if_neg c73] at H
                           exact absurd H (by simp)
                         ·
                          rw [if_neg c72] at H
                          have c72b0 : decide ((wrap64 ((wrap64 (x11_3 - x13_5)) * a2)) < (rd l0 4)) = false := decide_eq_false c72
                          clear c72
                          have H' := Aside0.mk H
                          clear H
                          have p767 : 0 ≤ (4 : Int) := (by omega)
                          have q767 : 4 < (l0.length : Int) := of_decide_eq_true (by first | (with_reducible assumption) | assumption)
                          obtain ⟨ad767, e767, hx767_0⟩ := Kd.at_int HR0.out 4 p767 q767
                          cases e767
                          (try simp only [show (4 : Int).toNat = 4 from rfl, Nat.reduceMul, Nat.reduceEqDiff, Go.Addr.add, ↓reduceIte] at hx767_0)
                          have qi767 : (4 < l0.length) = True := eq_true (by omega)
                          (try rw [show ((4 : Int)).toNat = 4 from rfl] at hx767_0)
                          replace hx767_0 := (HB.out.cell (World.block_lt_of_cell? w _ hx767_0)).trans hx767_0
                          replace p767 := eq_true p767
                          replace q767 := eq_true q767
                          go_wp2
                          repeat (go_quiet (fail); try go_wp2)
                          go_roundg kj34
                          case measure => have := HJ5.out; have := HK2.out; have := HK3.out; have := HJ27.out; have := HK5.out; have := HJ34.out; omega
                          case rel => exact ⟨(wrap64 (x13_5 - 1)), (by first | rfl | (simp; done) | (simp [*]; done)), H', ⟨by have := HJ5.out; have := HK2.out; have := HK3.out; have := HJ27.out; have := HK5.out; have := HJ34.out; omega⟩, ⟨by (with_reducible repeat (first | apply Kd.R_alloc | apply Kd.R_drewN | apply Kd.R_drew)); exact HO_8.out⟩, ⟨bl⟩⟩
                        ·
                         rw [if_neg c71] at H
                         exact absurd H (by simp)
                      ·
                       rw [if_neg c65] at H
                       have c65b0 : ((wrap64 ((rd t745 x11_3) - x10_3)) == (-1)) = false := beq_eq_false_iff_ne.mpr c65
                       have c65b1 : ((wrap64 ((rd t745 x11_3) - x10_3)) != (-1)) = true := bne_iff_ne.mpr c65
                       have H' := Aside0.mk H
                       clear H
                       go_wp2
                       repeat (go_quiet (fail); try go_wp2)
                       go_roundg kj34
                       case measure => have := HJ5.out; have := HK2.out; have := HK3.out; have := HJ27.out; have := HK5.out; have := HJ34.out; omega
                       case rel => exact ⟨(wrap64 (x13_5 - 1)), (by first | rfl | (simp; done) | (simp [*]; done)), H', ⟨by have := HJ5.out; have := HK2.out; have := HK3.out; have := HJ27.out; have := HK5.out; have := HJ34.out; omega⟩, ⟨by (with_reducible repeat (first | apply Kd.R_alloc | apply Kd.R_drewN | apply Kd.R_drew)); exact HO_8.out⟩, ⟨bl⟩⟩
                    ·
                     replace c37 := Bool.eq_false_iff.mpr c37
                     subst c37
                     have H1 : (plenumlaw21_SequencerDelays.l1 kj34 l0 l1 a2 t745 (rd t745 x11_3) (wrap64 (x11_3 + 1))) = some r := by rw [if_neg (show ¬ (false = true) by decide)] at H; exact H
                     clear H
                     have H := H1
                     clear H1
                     have H' := Aside0.mk H
                     clear H
                     go_wp2
                     repeat (go_quiet (fail); try go_wp2)
                     go_roundg kj34
                     case measure => have := HJ5.out; have := HK2.out; have := HK3.out; have := HJ27.out; have := HK5.out; have := HJ34.out; omega
                     case rel => exact ⟨((rd t745 x11_3)), (wrap64 (x11_3 + 1)), (by first | rfl | (simp; done) | (simp [*]; done)), (by first | rfl | (simp; done) | (simp [*]; done)), H', ⟨by have := HJ5.out; have := HK2.out; have := HK3.out; have := HJ27.out; have := HK5.out; have := HJ34.out; omega⟩, ⟨by (with_reducible repeat (first | apply Kd.R_alloc | apply Kd.R_drewN | apply Kd.R_drew)); exact HO_8.out⟩, ⟨bl⟩⟩
            ·
             rw [if_neg c27] at H
             exact absurd H (by simp)
           ·
            rw [if_neg c26] at H
            have c26b0 : decide (x11_3 < (t745.length : Int)) = false := decide_eq_false c26
            clear c26
            obtain rfl := Option.some.inj H
            obtain ⟨Ao77, co77, eo77⟩ := Kd.R_slice HO_8.out
            subst eo77
            go_wp2
            repeat (go_quiet (fail); try go_wp2)
            go_ret
            exact ⟨by first | rfl | (simp [errW_none, errW_some] <;> rfl) | (simp [*, errW_none, errW_some] <;> rfl), bl⟩
        ·
         replace c21 := Bool.eq_false_iff.mpr c21
         subst c21
         have H1 : (none) = some r := by rw [if_neg (show ¬ (false = true) by decide)] at H; exact H
         clear H
         have H := H1
         clear H1
         exact absurd H (by simp)
 ·
  replace c5 := Bool.eq_false_iff.mpr c5
  subst c5
  have H1 : (none) = some r := by rw [if_neg (show ¬ (false = true) by decide)] at H; exact H
  clear H
  have H := H1
  clear H1
  exact absurd H (by simp)

/-- THE ONE PURE STATEMENT of plenumlaw21_SequencerDelays: yours. -/
def plenumlaw21_SequencerDelays.Pure : Prop := ∀ (l0 : List Int) (l1 : List Int) (a2 : Int), l0.length ≤ maxLen → l0.length * 8 ≤ 140737488351232 → (∀ x ∈ l0, (Lit.int .i64 x).wf = true) → l1.length ≤ maxLen → l1.length * 8 ≤ 140737488351232 → (∀ x ∈ l1, (Lit.int .i64 x).wf = true) → (Lit.int .i64 a2).wf = true → ∃ k, plenumlaw21_SequencerDelays.f k l0 l1 a2 = some true
theorem plenumlaw21_SequencerDelays.walk (P : plenumlaw21_SequencerDelays.Pure) (a0 : Option Addr) (len0 cap0 : Nat) (z0 : List Int) (a1 : Option Addr) (len1 cap1 : Nat) (z1 : List Int) (a2 : Int) (w : World) (w0 : (a0 = none ∧ len0 = 0 ∧ cap0 = 0 ∧ z0 = []) ∨ ∃ x, a0 = some x ∧ len0 ≤ cap0 ∧ cap0 ≤ maxLen ∧ z0.length = cap0 ∧ (∀ i, i < z0.length → w.cell? (x.add i) = some (.int .i64 (z0.getD i 0))) ∧ ∀ n ∈ z0, (Lit.int .i64 n).wf = true) (y0 : len0 * 8 ≤ 140737488351232) (w1 : (a1 = none ∧ len1 = 0 ∧ cap1 = 0 ∧ z1 = []) ∨ ∃ x, a1 = some x ∧ len1 ≤ cap1 ∧ cap1 ≤ maxLen ∧ z1.length = cap1 ∧ (∀ i, i < z1.length → w.cell? (x.add i) = some (.int .i64 (z1.getD i 0))) ∧ ∀ n ∈ z1, (Lit.int .i64 n).wf = true) (y1 : len1 * 8 ≤ 140737488351232) (w2 : (Lit.int .i64 a2).wf = true) (hG : GW w) :
  Calls Tryd.prog 6 #[.slice a0 len0 cap0, .slice a1 len1 cap1, .int .i64 a2] w fun e w' => e = .returned (.bool true) ∧ Below w.heap.size w w' := by
 obtain ⟨l0, rfl, hr0, hm0, hw0, hc0⟩ := ReadsInt.ofRowC w0
 obtain ⟨l1, rfl, hr1, hm1, hw1, hc1⟩ := ReadsInt.ofRowC w1
 obtain ⟨k, h⟩ := P l0 l1 a2 hm0 y0 hw0 hm1 y1 hw1 w2
 refine (plenumlaw21_SequencerDelays.calls k _ _ l0 _ _ l1 a2 true w (Kd.C_of_reads (d := (0 : Int)) (h1 := fun _ => rfl) hr0) hc0 (Kd.C_of_reads (d := (0 : Int)) (h1 := fun _ => rfl) hr1) hc1 hG h).mono ?_
 rintro e w' ⟨rfl, hd⟩
 exact ⟨rfl, hd⟩

end Go.Proofs.YtcpncmjjbfbdhaaDoor.R
