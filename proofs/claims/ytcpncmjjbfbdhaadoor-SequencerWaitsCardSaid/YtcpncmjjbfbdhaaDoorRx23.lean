-- Written by this claim's own program out of the translation; not trusted: Lean checks it.
import Derived.Test.YtcpncmjjbfbdhaaDoorRx0
import Derived.Test.YtcpncmjjbfbdhaaDoorRx1
import Derived.Test.YtcpncmjjbfbdhaaDoorRx5
import Derived.Test.YtcpncmjjbfbdhaaDoorRx7
import Derived.Test.YtcpncmjjbfbdhaaDoorRx10
namespace Go.Proofs.YtcpncmjjbfbdhaaDoor.R
open Go.RowKit Go.Proofs.YtcpncmjjbfbdhaaDoorW.PrintWords Go.Proofs.YtcpncmjjbfbdhaaDoorW.PrintLast Go.Proofs.YtcpncmjjbfbdhaaDoorW.PrintMore
attribute [local go_sem] max2_int min2_int max_two min_two max_three min_three max_four min_four   -- for this text's walks alone
set_option linter.unusedVariables false
set_option linter.unusedSimpArgs false

attribute [local go_sem high] eqA27
/-! ### plenumlaw21_SequencerWaits: function 8 -/
mutual
def plenumlaw21_SequencerWaits.j0 : Nat → List Int → List Int → Int → Bool → Option (Bool)
 | 0, _, _, _, _ => none
 | k + 1, x0, x1, x2, x32 => if x32 = true then (some true) else (plenumlaw21_SequencerWaits.l0 k x0 x1 x2 (([0, 0] : List Int)) 0 0)
def plenumlaw21_SequencerWaits.l0 : Nat → List Int → List Int → Int → List Int → Int → Int → Option (Bool)
 | 0, _, _, _, _, _, _ => none
 | k + 1, x0, x1, x2, x7, x8, x9 => if x9 < (x1.length : Int) then (if 0 ≤ x9 then ((sequencer_Step.f k (⟨#[115, 116, 101, 112, 115]⟩ : ByteArray) x0 x7 (([(⟨2, Go.bits .and .i64 (rd x1 x9) 1⟩ : S27), (⟨2, Go.bits .and .i64 ((rd x1 x9) / 2) 1⟩ : S27)] : List (S27))) x2).bind fun bt803 => (if bt803.2.2.2 = 0 then (if (bt803.1.length : Int) = 2 then (if 0 < (bt803.1.length : Int) then (plenumlaw21_SequencerWaits.j2 k x0 x1 x2 x7 x8 x9 (Go.bits .and .i64 (rd x1 x9) 1) (Go.bits .and .i64 ((rd x1 x9) / 2) 1) bt803.1 (!(bt803.2.1 == 3) || (!(bt803.2.2.1 == (wrap64 ((rd bt803.1 0) + 1)))))) else (none)) else (plenumlaw21_SequencerWaits.j2 k x0 x1 x2 x7 x8 x9 (Go.bits .and .i64 (rd x1 x9) 1) (Go.bits .and .i64 ((rd x1 x9) / 2) 1) bt803.1 true)) else (plenumlaw21_SequencerWaits.j2 k x0 x1 x2 x7 x8 x9 (Go.bits .and .i64 (rd x1 x9) 1) (Go.bits .and .i64 ((rd x1 x9) / 2) 1) bt803.1 true))) else (none)) else (some true)
def plenumlaw21_SequencerWaits.j2 : Nat → List Int → List Int → Int → List Int → Int → Int → Int → Int → List Int → Bool → Option (Bool)
 | 0, _, _, _, _, _, _, _, _, _, _ => none
 | k + 1, x0, x1, x2, x7, x8, x9, x10, x11, x12, x79 => if x79 = true then (none) else (if x10 = 0 then (if 0 < (x12.length : Int) then (if (rd x12 0) = 0 then (plenumlaw21_SequencerWaits.j5 k x0 x1 x2 x7 x8 x9 x12) else (none)) else (none)) else (if 0 < (x7.length : Int) then (if (rd x7 0) = 0 then (if 0 < (x12.length : Int) then (if (rd x12 0) = 1 then (plenumlaw21_SequencerWaits.j5 k x0 x1 x2 x7 x8 x9 x12) else (none)) else (none)) else (if 0 < (x12.length : Int) then (if (rd x12 0) = (rd x7 0) then (if 0 < (x0.length : Int) then (if (rd x7 0) < (rd x0 0) then (if x11 = 1 then (if 1 < (x0.length : Int) then (plenumlaw21_SequencerWaits.j3 k x0 x1 x2 x7 x8 x9 x12 (decide ((wrap64 ((wrap64 (x9 - x8)) * x2)) ≥ (rd x0 1)))) else (none)) else (plenumlaw21_SequencerWaits.j3 k x0 x1 x2 x7 x8 x9 x12 false)) else (plenumlaw21_SequencerWaits.j3 k x0 x1 x2 x7 x8 x9 x12 false)) else (none)) else (if (rd x12 0) = (wrap64 ((rd x7 0) + 1)) then (if x11 = 0 then (plenumlaw21_SequencerWaits.j4 k x0 x1 x2 x7 x8 x9 x12 true) else (if 1 < (x0.length : Int) then (if (wrap64 ((wrap64 (x9 - x8)) * x2)) < (rd x0 1) then (plenumlaw21_SequencerWaits.j4 k x0 x1 x2 x7 x8 x9 x12 true) else (if 0 < (x0.length : Int) then (plenumlaw21_SequencerWaits.j4 k x0 x1 x2 x7 x8 x9 x12 (decide ((rd x12 0) > (rd x0 0)))) else (none))) else (none))) else (plenumlaw21_SequencerWaits.j4 k x0 x1 x2 x7 x8 x9 x12 true))) else (none))) else (none)))
def plenumlaw21_SequencerWaits.j5 : Nat → List Int → List Int → Int → List Int → Int → Int → List Int → Option (Bool)
 | 0, _, _, _, _, _, _, _ => none
 | k + 1, x0, x1, x2, x7, x8, x9, x12 => if 0 < (x12.length : Int) then (if 0 < (x7.length : Int) then (if (rd x12 0) = (rd x7 0) then (plenumlaw21_SequencerWaits.l0 k x0 x1 x2 x12 x8 (wrap64 (x9 + 1))) else (plenumlaw21_SequencerWaits.l0 k x0 x1 x2 x12 x9 (wrap64 (x9 + 1)))) else (none)) else (none)
def plenumlaw21_SequencerWaits.j3 : Nat → List Int → List Int → Int → List Int → Int → Int → List Int → Bool → Option (Bool)
 | 0, _, _, _, _, _, _, _, _ => none
 | k + 1, x0, x1, x2, x7, x8, x9, x12, x101 => if x101 = true then (none) else (plenumlaw21_SequencerWaits.j5 k x0 x1 x2 x7 x8 x9 x12)
def plenumlaw21_SequencerWaits.j4 : Nat → List Int → List Int → Int → List Int → Int → Int → List Int → Bool → Option (Bool)
 | 0, _, _, _, _, _, _, _, _ => none
 | k + 1, x0, x1, x2, x7, x8, x9, x12, x157 => if x157 = true then (none) else (plenumlaw21_SequencerWaits.j5 k x0 x1 x2 x7 x8 x9 x12)
end
def plenumlaw21_SequencerWaits.f (k : Nat) (l0 : List Int) (l1 : List Int) (a2 : Int) : Option (Bool) := (plenumlaw21_awake.f k).bind fun t793 => (if t793 = true then (if (l1.length : Int) > 40 then (plenumlaw21_SequencerWaits.j0 k l0 l1 a2 true) else ((sequencer_Check.f k (⟨#[115, 116, 101, 112, 115]⟩ : ByteArray) l0).bind fun t794 => (if t794 = 0 then (if a2 < 1 then (plenumlaw21_SequencerWaits.j0 k l0 l1 a2 true) else (plenumlaw21_SequencerWaits.j0 k l0 l1 a2 (decide (a2 > 86400)))) else (plenumlaw21_SequencerWaits.j0 k l0 l1 a2 true)))) else (none))
theorem plenumlaw21_SequencerWaits.mono_l : ∀ k, (∀ y0 y1 y2 y3, LeO (plenumlaw21_SequencerWaits.j0 k y0 y1 y2 y3) (plenumlaw21_SequencerWaits.j0 (k + 1) y0 y1 y2 y3)) ∧ (∀ y0 y1 y2 y3 y4 y5, LeO (plenumlaw21_SequencerWaits.l0 k y0 y1 y2 y3 y4 y5) (plenumlaw21_SequencerWaits.l0 (k + 1) y0 y1 y2 y3 y4 y5)) ∧ (∀ y0 y1 y2 y3 y4 y5 y6 y7 y8 y9, LeO (plenumlaw21_SequencerWaits.j2 k y0 y1 y2 y3 y4 y5 y6 y7 y8 y9) (plenumlaw21_SequencerWaits.j2 (k + 1) y0 y1 y2 y3 y4 y5 y6 y7 y8 y9)) ∧ (∀ y0 y1 y2 y3 y4 y5 y6, LeO (plenumlaw21_SequencerWaits.j5 k y0 y1 y2 y3 y4 y5 y6) (plenumlaw21_SequencerWaits.j5 (k + 1) y0 y1 y2 y3 y4 y5 y6)) ∧ (∀ y0 y1 y2 y3 y4 y5 y6 y7, LeO (plenumlaw21_SequencerWaits.j3 k y0 y1 y2 y3 y4 y5 y6 y7) (plenumlaw21_SequencerWaits.j3 (k + 1) y0 y1 y2 y3 y4 y5 y6 y7)) ∧ (∀ y0 y1 y2 y3 y4 y5 y6 y7, LeO (plenumlaw21_SequencerWaits.j4 k y0 y1 y2 y3 y4 y5 y6 y7) (plenumlaw21_SequencerWaits.j4 (k + 1) y0 y1 y2 y3 y4 y5 y6 y7))
 | 0 => ⟨fun _ _ _ _ r h => by simp [plenumlaw21_SequencerWaits.j0] at h, fun _ _ _ _ _ _ r h => by simp [plenumlaw21_SequencerWaits.l0] at h, fun _ _ _ _ _ _ _ _ _ _ r h => by simp [plenumlaw21_SequencerWaits.j2] at h, fun _ _ _ _ _ _ _ r h => by simp [plenumlaw21_SequencerWaits.j5] at h, fun _ _ _ _ _ _ _ _ r h => by simp [plenumlaw21_SequencerWaits.j3] at h, fun _ _ _ _ _ _ _ _ r h => by simp [plenumlaw21_SequencerWaits.j4] at h⟩
 | k + 1 => by
  obtain ⟨ih0, ih1, ih2, ih3, ih4, ih5⟩ := plenumlaw21_SequencerWaits.mono_l k
  refine ⟨?_, ?_, ?_, ?_, ?_, ?_⟩
  ·
   intro y0 y1 y2 y3
   unfold plenumlaw21_SequencerWaits.j0
   repeat' first
   | (with_reducible exact ih0 _ _ _ _)
   | (with_reducible exact ih1 _ _ _ _ _ _)
   | (with_reducible exact ih2 _ _ _ _ _ _ _ _ _ _)
   | (with_reducible exact ih3 _ _ _ _ _ _ _)
   | (with_reducible exact ih4 _ _ _ _ _ _ _ _)
   | (with_reducible exact ih5 _ _ _ _ _ _ _ _)
   | (with_reducible exact plenumlaw21_awake.mono _)
   | (with_reducible exact sequencer_Check.mono _ _ _)
   | (with_reducible exact sequencer_Step.mono _ _ _ _ _ _)
   | (with_reducible exact LeO.refl _)
   | (with_reducible exact LeO.none _)
   | (with_reducible refine LeO.ite ?_ ?_)
   | (with_reducible refine LeO.bind ?_ (fun _ => ?_))
   | exact ih0 _ _ _ _
   | exact ih1 _ _ _ _ _ _
   | exact ih2 _ _ _ _ _ _ _ _ _ _
   | exact ih3 _ _ _ _ _ _ _
   | exact ih4 _ _ _ _ _ _ _ _
   | exact ih5 _ _ _ _ _ _ _ _
   | exact plenumlaw21_awake.mono _
   | exact sequencer_Check.mono _ _ _
   | exact sequencer_Step.mono _ _ _ _ _ _
   | exact LeO.none _
   | refine LeO.ite ?_ ?_
   | refine LeO.bind ?_ (fun _ => ?_)
  ·
   intro y0 y1 y2 y3 y4 y5
   unfold plenumlaw21_SequencerWaits.l0
   repeat' first
   | (with_reducible exact ih0 _ _ _ _)
   | (with_reducible exact ih1 _ _ _ _ _ _)
   | (with_reducible exact ih2 _ _ _ _ _ _ _ _ _ _)
   | (with_reducible exact ih3 _ _ _ _ _ _ _)
   | (with_reducible exact ih4 _ _ _ _ _ _ _ _)
   | (with_reducible exact ih5 _ _ _ _ _ _ _ _)
   | (with_reducible exact plenumlaw21_awake.mono _)
   | (with_reducible exact sequencer_Check.mono _ _ _)
   | (with_reducible exact sequencer_Step.mono _ _ _ _ _ _)
   | (with_reducible exact LeO.refl _)
   | (with_reducible exact LeO.none _)
   | (with_reducible refine LeO.ite ?_ ?_)
   | (with_reducible refine LeO.bind ?_ (fun _ => ?_))
   | exact ih0 _ _ _ _
   | exact ih1 _ _ _ _ _ _
   | exact ih2 _ _ _ _ _ _ _ _ _ _
   | exact ih3 _ _ _ _ _ _ _
   | exact ih4 _ _ _ _ _ _ _ _
   | exact ih5 _ _ _ _ _ _ _ _
   | exact plenumlaw21_awake.mono _
   | exact sequencer_Check.mono _ _ _
   | exact sequencer_Step.mono _ _ _ _ _ _
   | exact LeO.none _
   | refine LeO.ite ?_ ?_
   | refine LeO.bind ?_ (fun _ => ?_)
  ·
   intro y0 y1 y2 y3 y4 y5 y6 y7 y8 y9
   unfold plenumlaw21_SequencerWaits.j2
   repeat' first
   | (with_reducible exact ih0 _ _ _ _)
   | (with_reducible exact ih1 _ _ _ _ _ _)
   | (with_reducible exact ih2 _ _ _ _ _ _ _ _ _ _)
   | (with_reducible exact ih3 _ _ _ _ _ _ _)
   | (with_reducible exact ih4 _ _ _ _ _ _ _ _)
   | (with_reducible exact ih5 _ _ _ _ _ _ _ _)
   | (with_reducible exact plenumlaw21_awake.mono _)
   | (with_reducible exact sequencer_Check.mono _ _ _)
   | (with_reducible exact sequencer_Step.mono _ _ _ _ _ _)
   | (with_reducible exact LeO.refl _)
   | (with_reducible exact LeO.none _)
   | (with_reducible refine LeO.ite ?_ ?_)
   | (with_reducible refine LeO.bind ?_ (fun _ => ?_))
   | exact ih0 _ _ _ _
   | exact ih1 _ _ _ _ _ _
   | exact ih2 _ _ _ _ _ _ _ _ _ _
   | exact ih3 _ _ _ _ _ _ _
   | exact ih4 _ _ _ _ _ _ _ _
   | exact ih5 _ _ _ _ _ _ _ _
   | exact plenumlaw21_awake.mono _
   | exact sequencer_Check.mono _ _ _
   | exact sequencer_Step.mono _ _ _ _ _ _
   | exact LeO.none _
   | refine LeO.ite ?_ ?_
   | refine LeO.bind ?_ (fun _ => ?_)
  ·
   intro y0 y1 y2 y3 y4 y5 y6
   unfold plenumlaw21_SequencerWaits.j5
   repeat' first
   | (with_reducible exact ih0 _ _ _ _)
   | (with_reducible exact ih1 _ _ _ _ _ _)
   | (with_reducible exact ih2 _ _ _ _ _ _ _ _ _ _)
   | (with_reducible exact ih3 _ _ _ _ _ _ _)
   | (with_reducible exact ih4 _ _ _ _ _ _ _ _)
   | (with_reducible exact ih5 _ _ _ _ _ _ _ _)
   | (with_reducible exact plenumlaw21_awake.mono _)
   | (with_reducible exact sequencer_Check.mono _ _ _)
   | (with_reducible exact sequencer_Step.mono _ _ _ _ _ _)
   | (with_reducible exact LeO.refl _)
   | (with_reducible exact LeO.none _)
   | (with_reducible refine LeO.ite ?_ ?_)
   | (with_reducible refine LeO.bind ?_ (fun _ => ?_))
   | exact ih0 _ _ _ _
   | exact ih1 _ _ _ _ _ _
   | exact ih2 _ _ _ _ _ _ _ _ _ _
   | exact ih3 _ _ _ _ _ _ _
   | exact ih4 _ _ _ _ _ _ _ _
   | exact ih5 _ _ _ _ _ _ _ _
   | exact plenumlaw21_awake.mono _
   | exact sequencer_Check.mono _ _ _
   | exact sequencer_Step.mono _ _ _ _ _ _
   | exact LeO.none _
   | refine LeO.ite ?_ ?_
   | refine LeO.bind ?_ (fun _ => ?_)
  ·
   intro y0 y1 y2 y3 y4 y5 y6 y7
   unfold plenumlaw21_SequencerWaits.j3
   repeat' first
   | (with_reducible exact ih0 _ _ _ _)
   | (with_reducible exact ih1 _ _ _ _ _ _)
   | (with_reducible exact ih2 _ _ _ _ _ _ _ _ _ _)
   | (with_reducible exact ih3 _ _ _ _ _ _ _)
   | (with_reducible exact ih4 _ _ _ _ _ _ _ _)
   | (with_reducible exact ih5 _ _ _ _ _ _ _ _)
   | (with_reducible exact plenumlaw21_awake.mono _)
   | (with_reducible exact sequencer_Check.mono _ _ _)
   | (with_reducible exact sequencer_Step.mono _ _ _ _ _ _)
   | (with_reducible exact LeO.refl _)
   | (with_reducible exact LeO.none _)
   | (with_reducible refine LeO.ite ?_ ?_)
   | (with_reducible refine LeO.bind ?_ (fun _ => ?_))
   | exact ih0 _ _ _ _
   | exact ih1 _ _ _ _ _ _
   | exact ih2 _ _ _ _ _ _ _ _ _ _
   | exact ih3 _ _ _ _ _ _ _
   | exact ih4 _ _ _ _ _ _ _ _
   | exact ih5 _ _ _ _ _ _ _ _
   | exact plenumlaw21_awake.mono _
   | exact sequencer_Check.mono _ _ _
   | exact sequencer_Step.mono _ _ _ _ _ _
   | exact LeO.none _
   | refine LeO.ite ?_ ?_
   | refine LeO.bind ?_ (fun _ => ?_)
  ·
   intro y0 y1 y2 y3 y4 y5 y6 y7
   unfold plenumlaw21_SequencerWaits.j4
   repeat' first
   | (with_reducible exact ih0 _ _ _ _)
   | (with_reducible exact ih1 _ _ _ _ _ _)
   | (with_reducible exact ih2 _ _ _ _ _ _ _ _ _ _)
   | (with_reducible exact ih3 _ _ _ _ _ _ _)
   | (with_reducible exact ih4 _ _ _ _ _ _ _ _)
   | (with_reducible exact ih5 _ _ _ _ _ _ _ _)
   | (with_reducible exact plenumlaw21_awake.mono _)
   | (with_reducible exact sequencer_Check.mono _ _ _)
   | (with_reducible exact sequencer_Step.mono _ _ _ _ _ _)
   | (with_reducible exact LeO.refl _)
   | (with_reducible exact LeO.none _)
   | (with_reducible refine LeO.ite ?_ ?_)
   | (with_reducible refine LeO.bind ?_ (fun _ => ?_))
   | exact ih0 _ _ _ _
   | exact ih1 _ _ _ _ _ _
   | exact ih2 _ _ _ _ _ _ _ _ _ _
   | exact ih3 _ _ _ _ _ _ _
   | exact ih4 _ _ _ _ _ _ _ _
   | exact ih5 _ _ _ _ _ _ _ _
   | exact plenumlaw21_awake.mono _
   | exact sequencer_Check.mono _ _ _
   | exact sequencer_Step.mono _ _ _ _ _ _
   | exact LeO.none _
   | refine LeO.ite ?_ ?_
   | refine LeO.bind ?_ (fun _ => ?_)
theorem plenumlaw21_SequencerWaits.mono : ∀ a0 a1 a2 k, LeO (plenumlaw21_SequencerWaits.f k a0 a1 a2) (plenumlaw21_SequencerWaits.f (k + 1) a0 a1 a2) := by
 intro a0 a1 a2 k
 obtain ⟨ih0, ih1, ih2, ih3, ih4, ih5⟩ := plenumlaw21_SequencerWaits.mono_l k
 unfold plenumlaw21_SequencerWaits.f
 repeat' first
   | (with_reducible exact ih0 _ _ _ _)
   | (with_reducible exact ih1 _ _ _ _ _ _)
   | (with_reducible exact ih2 _ _ _ _ _ _ _ _ _ _)
   | (with_reducible exact ih3 _ _ _ _ _ _ _)
   | (with_reducible exact ih4 _ _ _ _ _ _ _ _)
   | (with_reducible exact ih5 _ _ _ _ _ _ _ _)
   | (with_reducible exact plenumlaw21_awake.mono _)
   | (with_reducible exact sequencer_Check.mono _ _ _)
   | (with_reducible exact sequencer_Step.mono _ _ _ _ _ _)
   | (with_reducible exact LeO.refl _)
   | (with_reducible exact LeO.none _)
   | (with_reducible refine LeO.ite ?_ ?_)
   | (with_reducible refine LeO.bind ?_ (fun _ => ?_))
   | exact ih0 _ _ _ _
   | exact ih1 _ _ _ _ _ _
   | exact ih2 _ _ _ _ _ _ _ _ _ _
   | exact ih3 _ _ _ _ _ _ _
   | exact ih4 _ _ _ _ _ _ _ _
   | exact ih5 _ _ _ _ _ _ _ _
   | exact plenumlaw21_awake.mono _
   | exact sequencer_Check.mono _ _ _
   | exact sequencer_Step.mono _ _ _ _ _ _
   | exact LeO.none _
   | refine LeO.ite ?_ ?_
   | refine LeO.bind ?_ (fun _ => ?_)
set_option maxHeartbeats 8000000 in
set_option maxRecDepth 100000 in
theorem plenumlaw21_SequencerWaits.calls (k : Nat) (A0 : Option Addr) (c0 : Nat) (l0 : List Int) (A1 : Option Addr) (c1 : Nat) (l1 : List Int) (a2 : Int) (r : Bool) (w : World) (hr0 : Kd.C (Kd.int .i64) w A0 l0.length l0) (hc0 : l0.length ≤ c0) (hr1 : Kd.C (Kd.int .i64) w A1 l1.length l1) (hc1 : l1.length ≤ c1) (hG : GW w) (h : plenumlaw21_SequencerWaits.f k l0 l1 a2 = some r) :
  Calls Tryd.prog 8 #[.slice A0 l0.length c0, .slice A1 l1.length c1, .int .i64 a2] w fun e w' => e = .returned (.bool r) ∧ Below w.heap.size w w' := by
 have hu27 := Tryd.underlying27
 have HG := Aside0.mk hG
 clear hG
 have HR0 := Aside0.mk hr0
 have HC0 := Aside0.mk hc0
 clear hr0 hc0
 have HR1 := Aside0.mk hr1
 have HC1 := Aside0.mk hc1
 clear hr1 hc1
 have HB := Aside0.mk (Below.refl w.heap.size w)
 have H : ((plenumlaw21_awake.f k).bind fun t793 => (if t793 = true then (if (l1.length : Int) > 40 then (plenumlaw21_SequencerWaits.j0 k l0 l1 a2 true) else ((sequencer_Check.f k (⟨#[115, 116, 101, 112, 115]⟩ : ByteArray) l0).bind fun t794 => (if t794 = 0 then (if a2 < 1 then (plenumlaw21_SequencerWaits.j0 k l0 l1 a2 true) else (plenumlaw21_SequencerWaits.j0 k l0 l1 a2 (decide (a2 > 86400)))) else (plenumlaw21_SequencerWaits.j0 k l0 l1 a2 true)))) else (none))) = some r := h
 clear h
 replace H := Option.bind_eq_some_iff.mp H
 obtain ⟨t793, A40, H⟩ := H
 replace H : (if t793 = true then (if (l1.length : Int) > 40 then (plenumlaw21_SequencerWaits.j0 k l0 l1 a2 true) else ((sequencer_Check.f k (⟨#[115, 116, 101, 112, 115]⟩ : ByteArray) l0).bind fun t794 => (if t794 = 0 then (if a2 < 1 then (plenumlaw21_SequencerWaits.j0 k l0 l1 a2 true) else (plenumlaw21_SequencerWaits.j0 k l0 l1 a2 (decide (a2 > 86400)))) else (plenumlaw21_SequencerWaits.j0 k l0 l1 a2 true)))) else (none)) = some r := H
 have A4 := Aside0.mk A40
 clear A40
 by_cases c5 : t793 = true
 ·
  subst c5
  have H1 : (if (l1.length : Int) > 40 then (plenumlaw21_SequencerWaits.j0 k l0 l1 a2 true) else ((sequencer_Check.f k (⟨#[115, 116, 101, 112, 115]⟩ : ByteArray) l0).bind fun t794 => (if t794 = 0 then (if a2 < 1 then (plenumlaw21_SequencerWaits.j0 k l0 l1 a2 true) else (plenumlaw21_SequencerWaits.j0 k l0 l1 a2 (decide (a2 > 86400)))) else (plenumlaw21_SequencerWaits.j0 k l0 l1 a2 true)))) = some r := by rw [if_pos rfl] at H; exact H
  clear H
  have H := H1
  clear H1
  have HC6 := Aside0.mk H
  clear H
  go_enter Tryd.func8, Tryd.ntmps8
  go_upto_region 3 with (first | (go_at_call 9; (with_reducible refine (plenumlaw21_awake.calls k  true _ ?side1 A4.out).mono ?_); (case side1 => exact GW.below HG.out bl); rintro e w7 ⟨rfl, hb⟩; have n0_ := Aside0.mk (below_step bl hb); clear HB; have HB := n0_; clear n0_; (try clear hb); (try clear hb2); (try clear hk); (try clear hi)))
  repeat (go_quiet (first | (go_at_call 9; (with_reducible refine (plenumlaw21_awake.calls k  true _ ?side1 A4.out).mono ?_); (case side1 => exact GW.below HG.out bl); rintro e w7 ⟨rfl, hb⟩; have n0_ := Aside0.mk (below_step bl hb); clear HB; have HB := n0_; clear n0_; (try clear hb); (try clear hb2); (try clear hk); (try clear hi))); go_upto_region 3 with (first | (go_at_call 9; (with_reducible refine (plenumlaw21_awake.calls k  true _ ?side1 A4.out).mono ?_); (case side1 => exact GW.below HG.out bl); rintro e w7 ⟨rfl, hb⟩; have n0_ := Aside0.mk (below_step bl hb); clear HB; have HB := n0_; clear n0_; (try clear hb); (try clear hb2); (try clear hk); (try clear hi))))
  (try simp only [Act.put, List.setIfInBounds_toArray, List.set_cons_zero, List.set_cons_succ])
  go_cut [32] (fun v32 wc => ∃ (kq : Nat) (x32_5 : Bool), v32 = .bool x32_5 ∧ Aside0 (plenumlaw21_SequencerWaits.j0 kq l0 l1 a2 x32_5 = some r) ∧ Aside0 (kq ≤ k) ∧ Aside0 (Below w.heap.size w wc))
  case first =>
   have H := HC6.out
   clear HC6
   by_cases c8 : (l1.length : Int) > 40
   ·
    rw [if_pos c8] at H
    have c8b0 : decide (40 < (l1.length : Int)) = true := decide_eq_true c8
    have c8b1 : decide (40 < l1.length) = true := decide_eq_true (by omega)
    clear c8
    (first | rw [c8b0] | (simp only [i64_w, i32_w]; rw [c8b0]) | skip)
    have H' := Aside0.mk H
    clear H
    go_wp2
    repeat (go_quiet (fail); try go_wp2)
    go_meet
    case rel => exact ⟨_, (true), (by first | rfl | (simp; done) | (simp [*]; done)), H', ⟨by first | omega | exact Nat.le_refl _⟩, ⟨bl⟩⟩
   ·
    rw [if_neg c8] at H
    have c8b0 : decide (40 < (l1.length : Int)) = false := decide_eq_false c8
    have c8b1 : decide (40 < l1.length) = false := decide_eq_false (by omega)
    clear c8
    (first | rw [c8b0] | (simp only [i64_w, i32_w]; rw [c8b0]) | skip)
    replace H := Option.bind_eq_some_iff.mp H
    obtain ⟨t794, A90, H⟩ := H
    replace H : (if t794 = 0 then (if a2 < 1 then (plenumlaw21_SequencerWaits.j0 k l0 l1 a2 true) else (plenumlaw21_SequencerWaits.j0 k l0 l1 a2 (decide (a2 > 86400)))) else (plenumlaw21_SequencerWaits.j0 k l0 l1 a2 true)) = some r := H
    have A9 := Aside0.mk A90
    clear A90
    by_cases c10 : t794 = 0
    ·
     rw [if_pos c10] at H
     have c10b0 : (t794 == 0) = true := beq_iff_eq.mpr c10
     have c10b1 : (t794 != 0) = false := bne_eq_false_iff_eq.mpr c10
     clear c10
     by_cases c11 : a2 < 1
     ·
      rw [if_pos c11] at H
      have c11b0 : decide (a2 < 1) = true := decide_eq_true c11
      clear c11
      have H' := Aside0.mk H
      clear H
      go_wp2_with (first | (go_at_call 14; (with_reducible refine (sequencer_Check.calls k (⟨#[115, 116, 101, 112, 115]⟩ : ByteArray) _ _ l0 t794 _ ?side1 ?side2 ?side3 A9.out).mono ?_); (case side1 => repeat (first | exact (Kd.C_below HR0.out HB.out) | (with_reducible refine Kd.C_alloc ?_ _) | (with_reducible refine Kd.C_drewN ?_ _) | (with_reducible refine Kd.C_drew ?_))); (case side2 => exact HC0.out); (case side3 => exact GW.below HG.out bl); rintro e w12 ⟨rfl, hb⟩; have n0_ := Aside0.mk (below_step bl hb); clear HB; have HB := n0_; clear n0_; (try clear hb); (try clear hb2); (try clear hk); (try clear hi)))
      repeat (go_quiet (first | (go_at_call 14; (with_reducible refine (sequencer_Check.calls k (⟨#[115, 116, 101, 112, 115]⟩ : ByteArray) _ _ l0 t794 _ ?side1 ?side2 ?side3 A9.out).mono ?_); (case side1 => repeat (first | exact (Kd.C_below HR0.out HB.out) | (with_reducible refine Kd.C_alloc ?_ _) | (with_reducible refine Kd.C_drewN ?_ _) | (with_reducible refine Kd.C_drew ?_))); (case side2 => exact HC0.out); (case side3 => exact GW.below HG.out bl); rintro e w12 ⟨rfl, hb⟩; have n0_ := Aside0.mk (below_step bl hb); clear HB; have HB := n0_; clear n0_; (try clear hb); (try clear hb2); (try clear hk); (try clear hi))); try go_wp2_with (first | (go_at_call 14; (with_reducible refine (sequencer_Check.calls k (⟨#[115, 116, 101, 112, 115]⟩ : ByteArray) _ _ l0 t794 _ ?side1 ?side2 ?side3 A9.out).mono ?_); (case side1 => repeat (first | exact (Kd.C_below HR0.out HB.out) | (with_reducible refine Kd.C_alloc ?_ _) | (with_reducible refine Kd.C_drewN ?_ _) | (with_reducible refine Kd.C_drew ?_))); (case side2 => exact HC0.out); (case side3 => exact GW.below HG.out bl); rintro e w12 ⟨rfl, hb⟩; have n0_ := Aside0.mk (below_step bl hb); clear HB; have HB := n0_; clear n0_; (try clear hb); (try clear hb2); (try clear hk); (try clear hi))))
      go_meet
      case rel => exact ⟨_, (true), (by first | rfl | (simp; done) | (simp [*]; done)), H', ⟨by first | omega | exact Nat.le_refl _⟩, ⟨bl⟩⟩
     ·
      rw [if_neg c11] at H
      have c11b0 : decide (a2 < 1) = false := decide_eq_false c11
      clear c11
      have H' := Aside0.mk H
      clear H
      go_wp2_with (first | (go_at_call 14; (with_reducible refine (sequencer_Check.calls k (⟨#[115, 116, 101, 112, 115]⟩ : ByteArray) _ _ l0 t794 _ ?side1 ?side2 ?side3 A9.out).mono ?_); (case side1 => repeat (first | exact (Kd.C_below HR0.out HB.out) | (with_reducible refine Kd.C_alloc ?_ _) | (with_reducible refine Kd.C_drewN ?_ _) | (with_reducible refine Kd.C_drew ?_))); (case side2 => exact HC0.out); (case side3 => exact GW.below HG.out bl); rintro e w13 ⟨rfl, hb⟩; have n0_ := Aside0.mk (below_step bl hb); clear HB; have HB := n0_; clear n0_; (try clear hb); (try clear hb2); (try clear hk); (try clear hi)))
      repeat (go_quiet (first | (go_at_call 14; (with_reducible refine (sequencer_Check.calls k (⟨#[115, 116, 101, 112, 115]⟩ : ByteArray) _ _ l0 t794 _ ?side1 ?side2 ?side3 A9.out).mono ?_); (case side1 => repeat (first | exact (Kd.C_below HR0.out HB.out) | (with_reducible refine Kd.C_alloc ?_ _) | (with_reducible refine Kd.C_drewN ?_ _) | (with_reducible refine Kd.C_drew ?_))); (case side2 => exact HC0.out); (case side3 => exact GW.below HG.out bl); rintro e w13 ⟨rfl, hb⟩; have n0_ := Aside0.mk (below_step bl hb); clear HB; have HB := n0_; clear n0_; (try clear hb); (try clear hb2); (try clear hk); (try clear hi))); try go_wp2_with (first | (go_at_call 14; (with_reducible refine (sequencer_Check.calls k (⟨#[115, 116, 101, 112, 115]⟩ : ByteArray) _ _ l0 t794 _ ?side1 ?side2 ?side3 A9.out).mono ?_); (case side1 => repeat (first | exact (Kd.C_below HR0.out HB.out) | (with_reducible refine Kd.C_alloc ?_ _) | (with_reducible refine Kd.C_drewN ?_ _) | (with_reducible refine Kd.C_drew ?_))); (case side2 => exact HC0.out); (case side3 => exact GW.below HG.out bl); rintro e w13 ⟨rfl, hb⟩; have n0_ := Aside0.mk (below_step bl hb); clear HB; have HB := n0_; clear n0_; (try clear hb); (try clear hb2); (try clear hk); (try clear hi))))
      go_meet
      case rel => exact ⟨_, (decide (a2 > 86400)), (by first | rfl | (simp; done) | (simp [*]; done)), H', ⟨by first | omega | exact Nat.le_refl _⟩, ⟨bl⟩⟩
    ·
     rw [if_neg c10] at H
     have c10b0 : (t794 == 0) = false := beq_eq_false_iff_ne.mpr c10
     have c10b1 : (t794 != 0) = true := bne_iff_ne.mpr c10
     have H' := Aside0.mk H
     clear H
     go_wp2_with (first | (go_at_call 14; (with_reducible refine (sequencer_Check.calls k (⟨#[115, 116, 101, 112, 115]⟩ : ByteArray) _ _ l0 t794 _ ?side1 ?side2 ?side3 A9.out).mono ?_); (case side1 => repeat (first | exact (Kd.C_below HR0.out HB.out) | (with_reducible refine Kd.C_alloc ?_ _) | (with_reducible refine Kd.C_drewN ?_ _) | (with_reducible refine Kd.C_drew ?_))); (case side2 => exact HC0.out); (case side3 => exact GW.below HG.out bl); rintro e w14 ⟨rfl, hb⟩; have n0_ := Aside0.mk (below_step bl hb); clear HB; have HB := n0_; clear n0_; (try clear hb); (try clear hb2); (try clear hk); (try clear hi)))
     repeat (go_quiet (first | (go_at_call 14; (with_reducible refine (sequencer_Check.calls k (⟨#[115, 116, 101, 112, 115]⟩ : ByteArray) _ _ l0 t794 _ ?side1 ?side2 ?side3 A9.out).mono ?_); (case side1 => repeat (first | exact (Kd.C_below HR0.out HB.out) | (with_reducible refine Kd.C_alloc ?_ _) | (with_reducible refine Kd.C_drewN ?_ _) | (with_reducible refine Kd.C_drew ?_))); (case side2 => exact HC0.out); (case side3 => exact GW.below HG.out bl); rintro e w14 ⟨rfl, hb⟩; have n0_ := Aside0.mk (below_step bl hb); clear HB; have HB := n0_; clear n0_; (try clear hb); (try clear hb2); (try clear hk); (try clear hi))); try go_wp2_with (first | (go_at_call 14; (with_reducible refine (sequencer_Check.calls k (⟨#[115, 116, 101, 112, 115]⟩ : ByteArray) _ _ l0 t794 _ ?side1 ?side2 ?side3 A9.out).mono ?_); (case side1 => repeat (first | exact (Kd.C_below HR0.out HB.out) | (with_reducible refine Kd.C_alloc ?_ _) | (with_reducible refine Kd.C_drewN ?_ _) | (with_reducible refine Kd.C_drew ?_))); (case side2 => exact HC0.out); (case side3 => exact GW.below HG.out bl); rintro e w14 ⟨rfl, hb⟩; have n0_ := Aside0.mk (below_step bl hb); clear HB; have HB := n0_; clear n0_; (try clear hb); (try clear hb2); (try clear hk); (try clear hi))))
     go_meet
     case rel => exact ⟨_, (true), (by first | rfl | (simp; done) | (simp [*]; done)), H', ⟨by first | omega | exact Nat.le_refl _⟩, ⟨bl⟩⟩
  case rest =>
   clear HC6
   try clear c1
   try clear p2
   try clear c5
   try clear c8
   try clear c8b0
   try clear c8b1
   try clear c10
   try clear c10b0
   try clear c10b1
   try clear c11
   try clear c11b0
   obtain ⟨kq, x32_5, rfl, HA, HJ5, HB⟩ := hcut
   cases kq with
   | zero => exact absurd HA.out (by simp [plenumlaw21_SequencerWaits.j0])
   | succ kj5 =>
    have H := HA.out
    clear HA
    simp only [plenumlaw21_SequencerWaits.j0] at H
    by_cases c15 : x32_5 = true
    ·
     subst c15
     have H1 : (some true) = some r := by rw [if_pos rfl] at H; exact H
     clear H
     have H := H1
     clear H1
     obtain rfl := Option.some.inj H
     go_wp2
     repeat (go_quiet (fail); try go_wp2)
     go_ret
     exact ⟨by first | rfl | (simp [errW_none, errW_some] <;> rfl) | (simp [*, errW_none, errW_some] <;> rfl), bl⟩
    ·
     replace c15 := Bool.eq_false_iff.mpr c15
     subst c15
     have H1 : (plenumlaw21_SequencerWaits.l0 kj5 l0 l1 a2 (([0, 0] : List Int)) 0 0) = some r := by rw [if_neg (show ¬ (false = true) by decide)] at H; exact H
     clear H
     have H := H1
     clear H1
     obtain ⟨y795, hy795⟩ : ∃ y_ : List Int, y_ = (([0, 0] : List Int)) := ⟨_, rfl⟩
     replace H : (plenumlaw21_SequencerWaits.l0 kj5 l0 l1 a2 y795 0 0) = some r := by first | (rw [hy795]; with_reducible exact H) | (have H2_ := (Option.bind_some _ _).symm.trans H; rw [hy795]; with_reducible exact H2_) | (have H2_ := (Option.bind_some _ _).symm.trans H; with_reducible exact H2_) | with_reducible exact H | (rw [hy795]; exact H) | exact H
     have Ny795 := Aside0.mk hy795
     clear hy795
     have H' := Aside0.mk H
     clear H
     go_wp2_with (first | ((with_reducible refine gate_dst (N := 33) rfl ?_); (try (refine gate_guard (by rfl) ?_; dsimp only)); refine Kd.R_lit (Kd.int .i64) _ 2 ?hg (N := 33) ?hd (xs := ([0, 0] : List Int)) (inner := [.int .i64 0, .int .i64 0]) (ok := fun _ => True) (okp := fun _ => True) ?hr ?hp (fun _ hk => hk) trivial (Below.refl _ _) (Nat.le_refl _) (by simp) ?_; (case hd => rfl); (case hg => rfl); (case hr => first | (go_simp; done) | (go_simp; rfl)); (case hp => exact (Reps.one (show Kd.M (Kd.int .i64) _ _ _ 0 [.int .i64 0] from rfl) (Reps.one (show Kd.M (Kd.int .i64) _ _ _ 0 [.int .i64 0] from rfl) (Reps.none _ _)))); intro v796 w16 ho17 hb hg_ hnew_; clear hg_ hnew_; (first | rw [← Ny795.out] at ho17 | (simp only [Int.reduceToNat] at ho17; rw [← Ny795.out] at ho17)); have n0_ := Aside0.mk (Kd.R_lower ho17 (below_size bl)); have n1_ := Aside0.mk (below_step bl hb); clear HB; have HO797 := n0_; have HB := n1_; clear n0_ n1_; clear hb ho17))
     repeat (go_quiet (first | ((with_reducible refine gate_dst (N := 33) rfl ?_); (try (refine gate_guard (by rfl) ?_; dsimp only)); refine Kd.R_lit (Kd.int .i64) _ 2 ?hg (N := 33) ?hd (xs := ([0, 0] : List Int)) (inner := [.int .i64 0, .int .i64 0]) (ok := fun _ => True) (okp := fun _ => True) ?hr ?hp (fun _ hk => hk) trivial (Below.refl _ _) (Nat.le_refl _) (by simp) ?_; (case hd => rfl); (case hg => rfl); (case hr => first | (go_simp; done) | (go_simp; rfl)); (case hp => exact (Reps.one (show Kd.M (Kd.int .i64) _ _ _ 0 [.int .i64 0] from rfl) (Reps.one (show Kd.M (Kd.int .i64) _ _ _ 0 [.int .i64 0] from rfl) (Reps.none _ _)))); intro v796 w16 ho17 hb hg_ hnew_; clear hg_ hnew_; (first | rw [← Ny795.out] at ho17 | (simp only [Int.reduceToNat] at ho17; rw [← Ny795.out] at ho17)); have n0_ := Aside0.mk (Kd.R_lower ho17 (below_size bl)); have n1_ := Aside0.mk (below_step bl hb); clear HB; have HO797 := n0_; have HB := n1_; clear n0_ n1_; clear hb ho17)); try go_wp2_with (first | ((with_reducible refine gate_dst (N := 33) rfl ?_); (try (refine gate_guard (by rfl) ?_; dsimp only)); refine Kd.R_lit (Kd.int .i64) _ 2 ?hg (N := 33) ?hd (xs := ([0, 0] : List Int)) (inner := [.int .i64 0, .int .i64 0]) (ok := fun _ => True) (okp := fun _ => True) ?hr ?hp (fun _ hk => hk) trivial (Below.refl _ _) (Nat.le_refl _) (by simp) ?_; (case hd => rfl); (case hg => rfl); (case hr => first | (go_simp; done) | (go_simp; rfl)); (case hp => exact (Reps.one (show Kd.M (Kd.int .i64) _ _ _ 0 [.int .i64 0] from rfl) (Reps.one (show Kd.M (Kd.int .i64) _ _ _ 0 [.int .i64 0] from rfl) (Reps.none _ _)))); intro v796 w16 ho17 hb hg_ hnew_; clear hg_ hnew_; (first | rw [← Ny795.out] at ho17 | (simp only [Int.reduceToNat] at ho17; rw [← Ny795.out] at ho17)); have n0_ := Aside0.mk (Kd.R_lower ho17 (below_size bl)); have n1_ := Aside0.mk (below_step bl hb); clear HB; have HO797 := n0_; have HB := n1_; clear n0_ n1_; clear hb ho17)))
     go_loopg [7, 8, 9] kj5 (fun kq v7 v8 v9 w' => ∃ (x7_2 : List Int) (x8_2 : Int) (x9_2 : Int), v8 = .int .i64 x8_2 ∧ v9 = .int .i64 x9_2 ∧ Aside0 (plenumlaw21_SequencerWaits.l0 kq l0 l1 a2 x7_2 x8_2 x9_2 = some r) ∧ Aside0 (kq ≤ kj5) ∧ Aside0 (Kd.R (Kd.int .i64) 2 w' w.heap.size (fun _ => True) v7 x7_2) ∧ Aside0 (Below w.heap.size w w'))
     case atStart => exact ⟨(y795), (0), (0), (by first | rfl | (simp; done) | (simp [*]; done)), (by first | rfl | (simp; done) | (simp [*]; done)), H', ⟨Nat.le_refl _⟩, ⟨by (with_reducible repeat (first | apply Kd.R_alloc | apply Kd.R_drewN | apply Kd.R_drew)); exact HO797.out⟩, ⟨bl⟩⟩
     case round =>
      clear H'
      try clear c1
      try clear p2
      try clear c5
      try clear c8
      try clear c8b0
      try clear c8b1
      try clear c10
      try clear c10b0
      try clear c10b1
      try clear c11
      try clear c11b0
      try clear c15
      try clear p2
      obtain ⟨x7_2, x8_2, x9_2, rfl, rfl, HA, HK2, HO_7, HB⟩ := hrel
      cases gk with
      | zero => exact absurd HA.out (by simp [plenumlaw21_SequencerWaits.l0])
      | succ k2 =>
       have H := HA.out
       clear HA
       simp only [plenumlaw21_SequencerWaits.l0] at H
       by_cases c18 : x9_2 < (l1.length : Int)
       ·
        rw [if_pos c18] at H
        have c18b0 : decide (x9_2 < (l1.length : Int)) = true := decide_eq_true c18
        clear c18
        by_cases c19 : 0 ≤ x9_2
        ·
         rw [if_pos c19] at H
         have c19b0 : decide (0 ≤ x9_2) = true := decide_eq_true c19
         clear c19
         obtain ⟨y800, hy800⟩ : ∃ y_ : List (S27), y_ = (([(⟨2, Go.bits .and .i64 (rd l1 x9_2) 1⟩ : S27), (⟨2, Go.bits .and .i64 ((rd l1 x9_2) / 2) 1⟩ : S27)] : List (S27))) := ⟨_, rfl⟩
         replace H : ((sequencer_Step.f k2 (⟨#[115, 116, 101, 112, 115]⟩ : ByteArray) l0 x7_2 y800 a2).bind fun bt803 => (if bt803.2.2.2 = 0 then (if (bt803.1.length : Int) = 2 then (if 0 < (bt803.1.length : Int) then (plenumlaw21_SequencerWaits.j2 k2 l0 l1 a2 x7_2 x8_2 x9_2 (Go.bits .and .i64 (rd l1 x9_2) 1) (Go.bits .and .i64 ((rd l1 x9_2) / 2) 1) bt803.1 (!(bt803.2.1 == 3) || (!(bt803.2.2.1 == (wrap64 ((rd bt803.1 0) + 1)))))) else (none)) else (plenumlaw21_SequencerWaits.j2 k2 l0 l1 a2 x7_2 x8_2 x9_2 (Go.bits .and .i64 (rd l1 x9_2) 1) (Go.bits .and .i64 ((rd l1 x9_2) / 2) 1) bt803.1 true)) else (plenumlaw21_SequencerWaits.j2 k2 l0 l1 a2 x7_2 x8_2 x9_2 (Go.bits .and .i64 (rd l1 x9_2) 1) (Go.bits .and .i64 ((rd l1 x9_2) / 2) 1) bt803.1 true))) = some r := by first | (rw [hy800]; with_reducible exact H) | (have H2_ := (Option.bind_some _ _).symm.trans H; rw [hy800]; with_reducible exact H2_) | (have H2_ := (Option.bind_some _ _).symm.trans H; with_reducible exact H2_) | with_reducible exact H | (rw [hy800]; exact H) | exact H
         have Ny800 := Aside0.mk hy800
         clear hy800
         replace H := Option.bind_eq_some_iff.mp H
         obtain ⟨⟨t803, t806, t807, t808⟩, A200, H⟩ := H
         replace H : (if t808 = 0 then (if (t803.length : Int) = 2 then (if 0 < (t803.length : Int) then (plenumlaw21_SequencerWaits.j2 k2 l0 l1 a2 x7_2 x8_2 x9_2 (Go.bits .and .i64 (rd l1 x9_2) 1) (Go.bits .and .i64 ((rd l1 x9_2) / 2) 1) t803 (!(t806 == 3) || (!(t807 == (wrap64 ((rd t803 0) + 1)))))) else (none)) else (plenumlaw21_SequencerWaits.j2 k2 l0 l1 a2 x7_2 x8_2 x9_2 (Go.bits .and .i64 (rd l1 x9_2) 1) (Go.bits .and .i64 ((rd l1 x9_2) / 2) 1) t803 true)) else (plenumlaw21_SequencerWaits.j2 k2 l0 l1 a2 x7_2 x8_2 x9_2 (Go.bits .and .i64 (rd l1 x9_2) 1) (Go.bits .and .i64 ((rd l1 x9_2) / 2) 1) t803 true)) = some r := H
         have A20 := Aside0.mk A200
         clear A200
         have HC21 := Aside0.mk H
         clear H
         have p798 : 0 ≤ (x9_2 : Int) := of_decide_eq_true (by first | (with_reducible assumption) | assumption)
         have q798 : x9_2 < (l1.length : Int) := of_decide_eq_true (by first | (with_reducible assumption) | assumption)
         obtain ⟨ad798, e798, hx798_0⟩ := Kd.at_int HR1.out x9_2 p798 q798
         cases e798
         replace hx798_0 := (HB.out.cell (World.block_lt_of_cell? w _ hx798_0)).trans hx798_0
         replace p798 := eq_true p798
         replace q798 := eq_true q798
         have p799 : 0 ≤ (x9_2 : Int) := of_decide_eq_true (by first | (with_reducible assumption) | assumption)
         have q799 : x9_2 < (l1.length : Int) := of_decide_eq_true (by first | (with_reducible assumption) | assumption)
         obtain ⟨ad799, e799, hx799_0⟩ := Kd.at_int HR1.out x9_2 p799 q799
         obtain rfl : ad798 = ad799 := (by injection e799)
         replace hx799_0 := (HB.out.cell (World.block_lt_of_cell? w _ hx799_0)).trans hx799_0
         replace p799 := eq_true p799
         replace q799 := eq_true q799
         go_upto_region 11 with (first | ((with_reducible refine gate_dst (N := 58) rfl ?_); (try (refine gate_guard (by rfl) ?_; dsimp only)); refine Kd.R_lit k27 _ 27 ?hg (N := 58) ?hd (xs := ([(⟨2, Go.bits .and .i64 (rd l1 x9_2) 1⟩ : S27), (⟨2, Go.bits .and .i64 ((rd l1 x9_2) / 2) 1⟩ : S27)] : List (S27))) (inner := [.int .i64 2, .int .i64 (Go.bits .and .i64 (rd l1 x9_2) 1), .int .i64 2, .int .i64 (Go.bits .and .i64 ((rd l1 x9_2) / 2) 1)]) (ok := fun _ => True) (okp := fun _ => True) ?hr ?hp (fun _ hk => hk) trivial (Below.refl _ _) (Nat.le_refl _) (by simp) ?_; (case hd => rfl); (case hg => rfl); (case hr => first | (go_simp; done) | (go_simp; rfl)); (case hp => exact (Reps.c2 (show Kd.M k27 _ _ _ (⟨2, Go.bits .and .i64 (rd l1 x9_2) 1⟩ : S27) [.int .i64 2, .int .i64 (Go.bits .and .i64 (rd l1 x9_2) 1)] from (k27_mkM _ _ _ (⟨2, Go.bits .and .i64 (rd l1 x9_2) 1⟩ : S27) )) (Reps.c2 (show Kd.M k27 _ _ _ (⟨2, Go.bits .and .i64 ((rd l1 x9_2) / 2) 1⟩ : S27) [.int .i64 2, .int .i64 (Go.bits .and .i64 ((rd l1 x9_2) / 2) 1)] from (k27_mkM _ _ _ (⟨2, Go.bits .and .i64 ((rd l1 x9_2) / 2) 1⟩ : S27) )) (Reps.none _ _)))); intro v801 w22 ho23 hb hg_ hnew_; clear hg_ hnew_; (first | rw [← Ny800.out] at ho23 | (simp only [Int.reduceToNat] at ho23; rw [← Ny800.out] at ho23)); have n0_ := Aside0.mk (Kd.R_below (by (with_reducible repeat (first | apply Kd.R_alloc | apply Kd.R_drewN | apply Kd.R_drew)); exact HO_7.out) hb); have n1_ := Aside0.mk (Kd.R_lower ho23 (below_size bl)); have n2_ := Aside0.mk (below_step bl hb); clear HO_7; clear HB; have HO_7 := n0_; have HO802 := n1_; have HB := n2_; clear n0_ n1_ n2_; clear hb ho23; obtain ⟨Ao24, co24, eo24⟩ := Kd.R_slice HO_7.out; subst eo24; obtain ⟨Ao25, co25, eo25⟩ := Kd.R_slice HO802.out; subst eo25) | (go_at_call 11; (with_reducible refine (sequencer_Step.calls k2 (⟨#[115, 116, 101, 112, 115]⟩ : ByteArray) _ _ l0 _ _ x7_2 _ _ y800 a2 t803 t806 t807 t808 _ ?side1 ?side2 ?side3 ?side4 ?side5 ?side6 ?side7 A20.out).mono ?_); (case side1 => repeat (first | exact (Kd.C_below HR0.out HB.out) | (with_reducible refine Kd.C_alloc ?_ _) | (with_reducible refine Kd.C_drewN ?_ _) | (with_reducible refine Kd.C_drew ?_))); (case side2 => exact HC0.out); (case side3 => repeat (first | exact (Kd.R_reads' HO_7.out).2.2 | (with_reducible refine Kd.C_alloc ?_ _) | (with_reducible refine Kd.C_drewN ?_ _) | (with_reducible refine Kd.C_drew ?_))); (case side4 => exact (Kd.R_reads' HO_7.out).2.1); (case side5 => repeat (first | exact (Kd.R_reads' HO802.out).2.2 | (with_reducible refine Kd.C_alloc ?_ _) | (with_reducible refine Kd.C_drewN ?_ _) | (with_reducible refine Kd.C_drew ?_))); (case side6 => exact (Kd.R_reads' HO802.out).2.1); (case side7 => exact GW.below HG.out bl); rintro e w26 ⟨v804, rfl, ho0, hb⟩; have n0_ := Aside0.mk (Kd.R_elder' (by (with_reducible repeat (first | apply Kd.R_alloc | apply Kd.R_drewN | apply Kd.R_drew)); exact HO_7.out) (Kd.R_base ho0) hb); have n1_ := Aside0.mk (Kd.R_below (by (with_reducible repeat (first | apply Kd.R_alloc | apply Kd.R_drewN | apply Kd.R_drew)); exact HO802.out) hb); have n2_ := Aside0.mk (Kd.R_lower (Kd.R_new' ho0 (Kd.R_lt (by (with_reducible repeat (first | apply Kd.R_alloc | apply Kd.R_drewN | apply Kd.R_drew)); exact HO_7.out))) (below_size bl)); have n3_ := Aside0.mk (below_step bl hb); clear HO_7; clear HO802; clear HB; have HO_7 := n0_; have HO802 := n1_; have HO805 := n2_; have HB := n3_; clear n0_ n1_ n2_ n3_; (try clear hb); (try clear hb2); (try clear hk); (try clear hi); (try clear ho0)) | ((with_reducible refine gate_dst (N := 13) rfl ?_); (try (refine gate_guard (by rfl) ?_; dsimp only)); refine box_event ?hg (N := 13) ?hd (cs := #[.int .i64 0, .int .i64 0]) (t := 27) ?hr ?_; (case hd => rfl); (case hg => rfl); (case hr => first | (go_simp; done) | (go_simp; rfl)); intro gb809 hg w27 hbox hb; have n0_ := Aside0.mk (Kd.R_below (by (with_reducible repeat (first | apply Kd.R_alloc | apply Kd.R_drewN | apply Kd.R_drew)); exact HO_7.out) hb); have n1_ := Aside0.mk (Kd.R_below (Kd.R_elderB (by (with_reducible repeat (first | apply Kd.R_alloc | apply Kd.R_drewN | apply Kd.R_drew)); exact HO802.out) gb809 (Nat.le_of_eq hg.symm)) hb); have n2_ := Aside0.mk (Kd.R_below (by (with_reducible repeat (first | apply Kd.R_alloc | apply Kd.R_drewN | apply Kd.R_drew)); exact HO805.out) hb); have n3_ := Aside0.mk (below_step bl hb); have n4_ := Aside0.mk (hbox); have n5_ := Aside0.mk ((by rw [hg]; exact (below_size bl) : w.heap.size ≤ gb809)); have n6_ := Aside0.mk ((by rw [hg]; exact (below_size bl) : w.heap.size ≤ gb809)); clear HO_7; clear HO802; clear HO805; clear HB; have HO_7 := n0_; have HO802 := n1_; have HO805 := n2_; have HB := n3_; have BK809 := n4_; have GW809 := n5_; have GE809 := n6_; clear n0_ n1_ n2_ n3_ n4_ n5_ n6_; clear hb hbox hg; have hcz28_0 : w27.cell? ⟨gb809, 0, none⟩ = some (.int .i64 0) := (blk_cell BK809.out 0).trans rfl; have hcz28_1 : w27.cell? ⟨gb809, 1, none⟩ = some (.int .i64 0) := (blk_cell BK809.out 1).trans rfl; have hfz28_0 := blk_frozen BK809.out 0; have hfz28_1 := blk_frozen BK809.out 1))
         repeat (go_quiet (first | ((with_reducible refine gate_dst (N := 58) rfl ?_); (try (refine gate_guard (by rfl) ?_; dsimp only)); refine Kd.R_lit k27 _ 27 ?hg (N := 58) ?hd (xs := ([(⟨2, Go.bits .and .i64 (rd l1 x9_2) 1⟩ : S27), (⟨2, Go.bits .and .i64 ((rd l1 x9_2) / 2) 1⟩ : S27)] : List (S27))) (inner := [.int .i64 2, .int .i64 (Go.bits .and .i64 (rd l1 x9_2) 1), .int .i64 2, .int .i64 (Go.bits .and .i64 ((rd l1 x9_2) / 2) 1)]) (ok := fun _ => True) (okp := fun _ => True) ?hr ?hp (fun _ hk => hk) trivial (Below.refl _ _) (Nat.le_refl _) (by simp) ?_; (case hd => rfl); (case hg => rfl); (case hr => first | (go_simp; done) | (go_simp; rfl)); (case hp => exact (Reps.c2 (show Kd.M k27 _ _ _ (⟨2, Go.bits .and .i64 (rd l1 x9_2) 1⟩ : S27) [.int .i64 2, .int .i64 (Go.bits .and .i64 (rd l1 x9_2) 1)] from (k27_mkM _ _ _ (⟨2, Go.bits .and .i64 (rd l1 x9_2) 1⟩ : S27) )) (Reps.c2 (show Kd.M k27 _ _ _ (⟨2, Go.bits .and .i64 ((rd l1 x9_2) / 2) 1⟩ : S27) [.int .i64 2, .int .i64 (Go.bits .and .i64 ((rd l1 x9_2) / 2) 1)] from (k27_mkM _ _ _ (⟨2, Go.bits .and .i64 ((rd l1 x9_2) / 2) 1⟩ : S27) )) (Reps.none _ _)))); intro v801 w22 ho23 hb hg_ hnew_; clear hg_ hnew_; (first | rw [← Ny800.out] at ho23 | (simp only [Int.reduceToNat] at ho23; rw [← Ny800.out] at ho23)); have n0_ := Aside0.mk (Kd.R_below (by (with_reducible repeat (first | apply Kd.R_alloc | apply Kd.R_drewN | apply Kd.R_drew)); exact HO_7.out) hb); have n1_ := Aside0.mk (Kd.R_lower ho23 (below_size bl)); have n2_ := Aside0.mk (below_step bl hb); clear HO_7; clear HB; have HO_7 := n0_; have HO802 := n1_; have HB := n2_; clear n0_ n1_ n2_; clear hb ho23; obtain ⟨Ao24, co24, eo24⟩ := Kd.R_slice HO_7.out; subst eo24; obtain ⟨Ao25, co25, eo25⟩ := Kd.R_slice HO802.out; subst eo25) | (go_at_call 11; (with_reducible refine (sequencer_Step.calls k2 (⟨#[115, 116, 101, 112, 115]⟩ : ByteArray) _ _ l0 _ _ x7_2 _ _ y800 a2 t803 t806 t807 t808 _ ?side1 ?side2 ?side3 ?side4 ?side5 ?side6 ?side7 A20.out).mono ?_); (case side1 => repeat (first | exact (Kd.C_below HR0.out HB.out) | (with_reducible refine Kd.C_alloc ?_ _) | (with_reducible refine Kd.C_drewN ?_ _) | (with_reducible refine Kd.C_drew ?_))); (case side2 => exact HC0.out); (case side3 => repeat (first | exact (Kd.R_reads' HO_7.out).2.2 | (with_reducible refine Kd.C_alloc ?_ _) | (with_reducible refine Kd.C_drewN ?_ _) | (with_reducible refine Kd.C_drew ?_))); (case side4 => exact (Kd.R_reads' HO_7.out).2.1); (case side5 => repeat (first | exact (Kd.R_reads' HO802.out).2.2 | (with_reducible refine Kd.C_alloc ?_ _) | (with_reducible refine Kd.C_drewN ?_ _) | (with_reducible refine Kd.C_drew ?_))); (case side6 => exact (Kd.R_reads' HO802.out).2.1); (case side7 => exact GW.below HG.out bl); rintro e w26 ⟨v804, rfl, ho0, hb⟩; have n0_ := Aside0.mk (Kd.R_elder' (by (with_reducible repeat (first | apply Kd.R_alloc | apply Kd.R_drewN | apply Kd.R_drew)); exact HO_7.out) (Kd.R_base ho0) hb); have n1_ := Aside0.mk (Kd.R_below (by (with_reducible repeat (first | apply Kd.R_alloc | apply Kd.R_drewN | apply Kd.R_drew)); exact HO802.out) hb); have n2_ := Aside0.mk (Kd.R_lower (Kd.R_new' ho0 (Kd.R_lt (by (with_reducible repeat (first | apply Kd.R_alloc | apply Kd.R_drewN | apply Kd.R_drew)); exact HO_7.out))) (below_size bl)); have n3_ := Aside0.mk (below_step bl hb); clear HO_7; clear HO802; clear HB; have HO_7 := n0_; have HO802 := n1_; have HO805 := n2_; have HB := n3_; clear n0_ n1_ n2_ n3_; (try clear hb); (try clear hb2); (try clear hk); (try clear hi); (try clear ho0)) | ((with_reducible refine gate_dst (N := 13) rfl ?_); (try (refine gate_guard (by rfl) ?_; dsimp only)); refine box_event ?hg (N := 13) ?hd (cs := #[.int .i64 0, .int .i64 0]) (t := 27) ?hr ?_; (case hd => rfl); (case hg => rfl); (case hr => first | (go_simp; done) | (go_simp; rfl)); intro gb809 hg w27 hbox hb; have n0_ := Aside0.mk (Kd.R_below (by (with_reducible repeat (first | apply Kd.R_alloc | apply Kd.R_drewN | apply Kd.R_drew)); exact HO_7.out) hb); have n1_ := Aside0.mk (Kd.R_below (Kd.R_elderB (by (with_reducible repeat (first | apply Kd.R_alloc | apply Kd.R_drewN | apply Kd.R_drew)); exact HO802.out) gb809 (Nat.le_of_eq hg.symm)) hb); have n2_ := Aside0.mk (Kd.R_below (by (with_reducible repeat (first | apply Kd.R_alloc | apply Kd.R_drewN | apply Kd.R_drew)); exact HO805.out) hb); have n3_ := Aside0.mk (below_step bl hb); have n4_ := Aside0.mk (hbox); have n5_ := Aside0.mk ((by rw [hg]; exact (below_size bl) : w.heap.size ≤ gb809)); have n6_ := Aside0.mk ((by rw [hg]; exact (below_size bl) : w.heap.size ≤ gb809)); clear HO_7; clear HO802; clear HO805; clear HB; have HO_7 := n0_; have HO802 := n1_; have HO805 := n2_; have HB := n3_; have BK809 := n4_; have GW809 := n5_; have GE809 := n6_; clear n0_ n1_ n2_ n3_ n4_ n5_ n6_; clear hb hbox hg; have hcz28_0 : w27.cell? ⟨gb809, 0, none⟩ = some (.int .i64 0) := (blk_cell BK809.out 0).trans rfl; have hcz28_1 : w27.cell? ⟨gb809, 1, none⟩ = some (.int .i64 0) := (blk_cell BK809.out 1).trans rfl; have hfz28_0 := blk_frozen BK809.out 0; have hfz28_1 := blk_frozen BK809.out 1)); go_upto_region 11 with (first | ((with_reducible refine gate_dst (N := 58) rfl ?_); (try (refine gate_guard (by rfl) ?_; dsimp only)); refine Kd.R_lit k27 _ 27 ?hg (N := 58) ?hd (xs := ([(⟨2, Go.bits .and .i64 (rd l1 x9_2) 1⟩ : S27), (⟨2, Go.bits .and .i64 ((rd l1 x9_2) / 2) 1⟩ : S27)] : List (S27))) (inner := [.int .i64 2, .int .i64 (Go.bits .and .i64 (rd l1 x9_2) 1), .int .i64 2, .int .i64 (Go.bits .and .i64 ((rd l1 x9_2) / 2) 1)]) (ok := fun _ => True) (okp := fun _ => True) ?hr ?hp (fun _ hk => hk) trivial (Below.refl _ _) (Nat.le_refl _) (by simp) ?_; (case hd => rfl); (case hg => rfl); (case hr => first | (go_simp; done) | (go_simp; rfl)); (case hp => exact (Reps.c2 (show Kd.M k27 _ _ _ (⟨2, Go.bits .and .i64 (rd l1 x9_2) 1⟩ : S27) [.int .i64 2, .int .i64 (Go.bits .and .i64 (rd l1 x9_2) 1)] from (k27_mkM _ _ _ (⟨2, Go.bits .and .i64 (rd l1 x9_2) 1⟩ : S27) )) (Reps.c2 (show Kd.M k27 _ _ _ (⟨2, Go.bits .and .i64 ((rd l1 x9_2) / 2) 1⟩ : S27) [.int .i64 2, .int .i64 (Go.bits .and .i64 ((rd l1 x9_2) / 2) 1)] from (k27_mkM _ _ _ (⟨2, Go.bits .and .i64 ((rd l1 x9_2) / 2) 1⟩ : S27) )) (Reps.none _ _)))); intro v801 w22 ho23 hb hg_ hnew_; clear hg_ hnew_; (first | rw [← Ny800.out] at ho23 | (simp only [Int.reduceToNat] at ho23; rw [← Ny800.out] at ho23)); have n0_ := Aside0.mk (Kd.R_below (by (with_reducible repeat (first | apply Kd.R_alloc | apply Kd.R_drewN | apply Kd.R_drew)); exact HO_7.out) hb); have n1_ := Aside0.mk (Kd.R_lower ho23 (below_size bl)); have n2_ := Aside0.mk (below_step bl hb); clear HO_7; clear HB; have HO_7 := n0_; have HO802 := n1_; have HB := n2_; clear n0_ n1_ n2_; clear hb ho23; obtain ⟨Ao24, co24, eo24⟩ := Kd.R_slice HO_7.out; subst eo24; obtain ⟨Ao25, co25, eo25⟩ := Kd.R_slice HO802.out; subst eo25) | (go_at_call 11; (with_reducible refine (sequencer_Step.calls k2 (⟨#[115, 116, 101, 112, 115]⟩ : ByteArray) _ _ l0 _ _ x7_2 _ _ y800 a2 t803 t806 t807 t808 _ ?side1 ?side2 ?side3 ?side4 ?side5 ?side6 ?side7 A20.out).mono ?_); (case side1 => repeat (first | exact (Kd.C_below HR0.out HB.out) | (with_reducible refine Kd.C_alloc ?_ _) | (with_reducible refine Kd.C_drewN ?_ _) | (with_reducible refine Kd.C_drew ?_))); (case side2 => exact HC0.out); (case side3 => repeat (first | exact (Kd.R_reads' HO_7.out).2.2 | (with_reducible refine Kd.C_alloc ?_ _) | (with_reducible refine Kd.C_drewN ?_ _) | (with_reducible refine Kd.C_drew ?_))); (case side4 => exact (Kd.R_reads' HO_7.out).2.1); (case side5 => repeat (first | exact (Kd.R_reads' HO802.out).2.2 | (with_reducible refine Kd.C_alloc ?_ _) | (with_reducible refine Kd.C_drewN ?_ _) | (with_reducible refine Kd.C_drew ?_))); (case side6 => exact (Kd.R_reads' HO802.out).2.1); (case side7 => exact GW.below HG.out bl); rintro e w26 ⟨v804, rfl, ho0, hb⟩; have n0_ := Aside0.mk (Kd.R_elder' (by (with_reducible repeat (first | apply Kd.R_alloc | apply Kd.R_drewN | apply Kd.R_drew)); exact HO_7.out) (Kd.R_base ho0) hb); have n1_ := Aside0.mk (Kd.R_below (by (with_reducible repeat (first | apply Kd.R_alloc | apply Kd.R_drewN | apply Kd.R_drew)); exact HO802.out) hb); have n2_ := Aside0.mk (Kd.R_lower (Kd.R_new' ho0 (Kd.R_lt (by (with_reducible repeat (first | apply Kd.R_alloc | apply Kd.R_drewN | apply Kd.R_drew)); exact HO_7.out))) (below_size bl)); have n3_ := Aside0.mk (below_step bl hb); clear HO_7; clear HO802; clear HB; have HO_7 := n0_; have HO802 := n1_; have HO805 := n2_; have HB := n3_; clear n0_ n1_ n2_ n3_; (try clear hb); (try clear hb2); (try clear hk); (try clear hi); (try clear ho0)) | ((with_reducible refine gate_dst (N := 13) rfl ?_); (try (refine gate_guard (by rfl) ?_; dsimp only)); refine box_event ?hg (N := 13) ?hd (cs := #[.int .i64 0, .int .i64 0]) (t := 27) ?hr ?_; (case hd => rfl); (case hg => rfl); (case hr => first | (go_simp; done) | (go_simp; rfl)); intro gb809 hg w27 hbox hb; have n0_ := Aside0.mk (Kd.R_below (by (with_reducible repeat (first | apply Kd.R_alloc | apply Kd.R_drewN | apply Kd.R_drew)); exact HO_7.out) hb); have n1_ := Aside0.mk (Kd.R_below (Kd.R_elderB (by (with_reducible repeat (first | apply Kd.R_alloc | apply Kd.R_drewN | apply Kd.R_drew)); exact HO802.out) gb809 (Nat.le_of_eq hg.symm)) hb); have n2_ := Aside0.mk (Kd.R_below (by (with_reducible repeat (first | apply Kd.R_alloc | apply Kd.R_drewN | apply Kd.R_drew)); exact HO805.out) hb); have n3_ := Aside0.mk (below_step bl hb); have n4_ := Aside0.mk (hbox); have n5_ := Aside0.mk ((by rw [hg]; exact (below_size bl) : w.heap.size ≤ gb809)); have n6_ := Aside0.mk ((by rw [hg]; exact (below_size bl) : w.heap.size ≤ gb809)); clear HO_7; clear HO802; clear HO805; clear HB; have HO_7 := n0_; have HO802 := n1_; have HO805 := n2_; have HB := n3_; have BK809 := n4_; have GW809 := n5_; have GE809 := n6_; clear n0_ n1_ n2_ n3_ n4_ n5_ n6_; clear hb hbox hg; have hcz28_0 : w27.cell? ⟨gb809, 0, none⟩ = some (.int .i64 0) := (blk_cell BK809.out 0).trans rfl; have hcz28_1 : w27.cell? ⟨gb809, 1, none⟩ = some (.int .i64 0) := (blk_cell BK809.out 1).trans rfl; have hfz28_0 := blk_frozen BK809.out 0; have hfz28_1 := blk_frozen BK809.out 1)))
         (try simp only [Act.put, List.setIfInBounds_toArray, List.set_cons_zero, List.set_cons_succ])
         go_cut [79] (fun v79 wc => ∃ (kq : Nat) (x79_20 : Bool), v79 = .bool x79_20 ∧ Aside0 (plenumlaw21_SequencerWaits.j2 kq l0 l1 a2 x7_2 x8_2 x9_2 (Go.bits .and .i64 (rd l1 x9_2) 1) (Go.bits .and .i64 ((rd l1 x9_2) / 2) 1) t803 x79_20 = some r) ∧ Aside0 (kq ≤ k2) ∧ Aside0 (Kd.R (Kd.int .i64) 2 wc w.heap.size (fun k_ => some k_ ≠ (v804 : Value).ownBlock) (.slice Ao24 x7_2.length co24) x7_2) ∧ Aside0 (Kd.R (Kd.int .i64) 2 wc w.heap.size (fun k_ => some k_ ≠ ((.slice Ao24 x7_2.length co24) : Value).ownBlock) v804 t803) ∧ Aside0 (wc.heap[gb809]? = some (.cells #[.int .i64 t806, .int .i64 t807] 27 (0, 0))) ∧ Aside0 (Below w.heap.size w wc))
         case first =>
          have H := HC21.out
          clear HC21
          by_cases c29 : t808 = 0
          ·
           rw [if_pos c29] at H
           have c29b0 : (t808 == 0) = true := beq_iff_eq.mpr c29
           have c29b1 : (t808 != 0) = false := bne_eq_false_iff_eq.mpr c29
           clear c29
           (first | rw [c29b0] | (simp only [i64_w, i32_w]; rw [c29b0]) | skip)
           by_cases c30 : (t803.length : Int) = 2
           ·
            rw [if_pos c30] at H
            have c30b0 : ((t803.length : Int) == 2) = true := beq_iff_eq.mpr c30
            have c30b1 : ((t803.length : Int) != 2) = false := bne_eq_false_iff_eq.mpr c30
            clear c30
            by_cases c31 : 0 < (t803.length : Int)
            ·
             rw [if_pos c31] at H
             have c31b0 : decide (0 < (t803.length : Int)) = true := decide_eq_true c31
             have c31b1 : decide (0 < t803.length) = true := decide_eq_true (by omega)
             clear c31
             have H' := Aside0.mk H
             clear H
             obtain ⟨Ao32, co32, eo32⟩ := Kd.R_slice HO805.out
             subst eo32
             have hcz33_0 : w27.cell? ⟨gb809, 0, none⟩ = some (.int .i64 0) := (blk_cell BK809.out 0).trans rfl
             have hcz33_1 : w27.cell? ⟨gb809, 1, none⟩ = some (.int .i64 0) := (blk_cell BK809.out 1).trans rfl
             have hfz33_0 := blk_frozen BK809.out 0
             have hfz33_1 := blk_frozen BK809.out 1
             have p810 : 0 ≤ (0 : Int) := (by omega)
             have q810 : 0 < (t803.length : Int) := of_decide_eq_true (by first | (with_reducible assumption) | assumption)
             obtain ⟨ad810, e810, hx810_0⟩ := Kd.at_int (Kd.R_reads' HO805.out).2.2 0 p810 q810
             cases e810
             have qi810 : (0 < t803.length) = True := eq_true (by omega)
             (try rw [show ((0 : Int)).toNat = 0 from rfl] at hx810_0)
             (try rw [Addr.add_zero'] at hx810_0)
             have hn810_0 : ad810.block ≠ gb809 := Kd.own_blk (Kd.R_ne HO805.out BK809.out (by decide))
             have hn810_1 : ad810.block ≠ gb809 := Kd.own_blk (Kd.R_ne HO805.out BK809.out (by decide))
             replace hx810_0 := (cell_far (p := ⟨gb809, 0, none⟩) (by first | (rw [add_block]; exact hn810_0) | (show (Addr.add _ _).block ≠ _; rw [add_block]; exact hn810_0) | exact hn810_0) (.int .i64 t806)).trans hx810_0
             replace hx810_0 := (cell_far (p := ⟨gb809, 1, none⟩) (by first | (rw [add_block]; exact hn810_1) | (show (Addr.add _ _).block ≠ _; rw [add_block]; exact hn810_1) | exact hn810_1) (.int .i64 t807)).trans hx810_0
             (try have hy810_0 := fun (n_ : Nat) => (show ((((w27.drewN n_).setCell ⟨gb809, 0, none⟩ (.int .i64 t806)).setCell ⟨gb809, 1, none⟩ (.int .i64 t807))).cell? _ = some _ from hx810_0))
             clear hn810_0
             clear hn810_1
             replace p810 := eq_true p810
             replace q810 := eq_true q810
             go_wp2
             repeat (go_quiet (fail); try go_wp2)
             go_meet
             case rel => exact ⟨_, ((!(t806 == 3) || (!(t807 == (wrap64 ((rd t803 0) + 1)))))), (by first | rfl | (simp; done) | (simp [*]; done)), H', ⟨by have := HJ5.out; have := HK2.out; first | omega | exact Nat.le_refl _⟩, ⟨by (with_reducible repeat (first | apply Kd.R_alloc | apply Kd.R_drewN | apply Kd.R_drew)); exact Kd.R_mono (Kd.R_far (p := ⟨gb809, 1, none⟩) (Kd.R_far (p := ⟨gb809, 0, none⟩) (Kd.R_types HO_7.out BK809.out (by decide)) (fun _ hk => hk.2) (.int .i64 t806)) (fun _ hk => hk.2) (.int .i64 t807)) (fun _ hk => hk.1.2)⟩, ⟨by (with_reducible repeat (first | apply Kd.R_alloc | apply Kd.R_drewN | apply Kd.R_drew)); exact Kd.R_mono (Kd.R_far (p := ⟨gb809, 1, none⟩) (Kd.R_far (p := ⟨gb809, 0, none⟩) (Kd.R_types HO805.out BK809.out (by decide)) (fun _ hk => hk.2) (.int .i64 t806)) (fun _ hk => hk.2) (.int .i64 t807)) (fun _ hk => hk.1.2)⟩, ⟨by (with_reducible repeat (first | refine blk_drewN ?_ _ | refine blk_drew ?_ | refine blk_alloc ?_ _)); refine blk_put (cs := #[.int .i64 t806, .int .i64 0]) ?_ 1 _ rfl; (with_reducible repeat (first | refine blk_drewN ?_ _ | refine blk_drew ?_ | refine blk_alloc ?_ _)); refine blk_put (cs := #[.int .i64 0, .int .i64 0]) ?_ 0 _ rfl; (with_reducible repeat (first | refine blk_drewN ?_ _ | refine blk_drew ?_ | refine blk_alloc ?_ _)); exact BK809.out⟩, ⟨by repeat (first | (with_reducible first | exact HB.out | apply below_alloc | apply pw_below_drewN | apply below_drew1 | refine below_set ?_ GE809.out) | exact HB.out)⟩⟩
            ·
             rw [if_neg c31] at H
             exact absurd H (by simp)
           ·
            rw [if_neg c30] at H
            have c30b0 : ((t803.length : Int) == 2) = false := beq_eq_false_iff_ne.mpr c30
            have c30b1 : ((t803.length : Int) != 2) = true := bne_iff_ne.mpr c30
            have H' := Aside0.mk H
            clear H
            obtain ⟨Ao34, co34, eo34⟩ := Kd.R_slice HO805.out
            subst eo34
            go_wp2
            repeat (go_quiet (fail); try go_wp2)
            go_meet
            case rel => exact ⟨_, (true), (by first | rfl | (simp; done) | (simp [*]; done)), H', ⟨by have := HJ5.out; have := HK2.out; first | omega | exact Nat.le_refl _⟩, ⟨by (with_reducible repeat (first | apply Kd.R_alloc | apply Kd.R_drewN | apply Kd.R_drew)); exact Kd.R_mono (Kd.R_far (p := ⟨gb809, 1, none⟩) (Kd.R_far (p := ⟨gb809, 0, none⟩) (Kd.R_types HO_7.out BK809.out (by decide)) (fun _ hk => hk.2) (.int .i64 t806)) (fun _ hk => hk.2) (.int .i64 t807)) (fun _ hk => hk.1.2)⟩, ⟨by (with_reducible repeat (first | apply Kd.R_alloc | apply Kd.R_drewN | apply Kd.R_drew)); exact Kd.R_mono (Kd.R_far (p := ⟨gb809, 1, none⟩) (Kd.R_far (p := ⟨gb809, 0, none⟩) (Kd.R_types HO805.out BK809.out (by decide)) (fun _ hk => hk.2) (.int .i64 t806)) (fun _ hk => hk.2) (.int .i64 t807)) (fun _ hk => hk.1.2)⟩, ⟨by (with_reducible repeat (first | refine blk_drewN ?_ _ | refine blk_drew ?_ | refine blk_alloc ?_ _)); refine blk_put (cs := #[.int .i64 t806, .int .i64 0]) ?_ 1 _ rfl; (with_reducible repeat (first | refine blk_drewN ?_ _ | refine blk_drew ?_ | refine blk_alloc ?_ _)); refine blk_put (cs := #[.int .i64 0, .int .i64 0]) ?_ 0 _ rfl; (with_reducible repeat (first | refine blk_drewN ?_ _ | refine blk_drew ?_ | refine blk_alloc ?_ _)); exact BK809.out⟩, ⟨by repeat (first | (with_reducible first | exact HB.out | apply below_alloc | apply pw_below_drewN | apply below_drew1 | refine below_set ?_ GE809.out) | exact HB.out)⟩⟩
          ·
           rw [if_neg c29] at H
           have c29b0 : (t808 == 0) = false := beq_eq_false_iff_ne.mpr c29
           have c29b1 : (t808 != 0) = true := bne_iff_ne.mpr c29
           (first | rw [c29b0] | (simp only [i64_w, i32_w]; rw [c29b0]) | skip)
           have H' := Aside0.mk H
           clear H
           go_wp2
           repeat (go_quiet (fail); try go_wp2)
           go_meet
           case rel => exact ⟨_, (true), (by first | rfl | (simp; done) | (simp [*]; done)), H', ⟨by have := HJ5.out; have := HK2.out; first | omega | exact Nat.le_refl _⟩, ⟨by (with_reducible repeat (first | apply Kd.R_alloc | apply Kd.R_drewN | apply Kd.R_drew)); exact Kd.R_mono (Kd.R_far (p := ⟨gb809, 1, none⟩) (Kd.R_far (p := ⟨gb809, 0, none⟩) (Kd.R_types HO_7.out BK809.out (by decide)) (fun _ hk => hk.2) (.int .i64 t806)) (fun _ hk => hk.2) (.int .i64 t807)) (fun _ hk => hk.1.2)⟩, ⟨by (with_reducible repeat (first | apply Kd.R_alloc | apply Kd.R_drewN | apply Kd.R_drew)); exact Kd.R_mono (Kd.R_far (p := ⟨gb809, 1, none⟩) (Kd.R_far (p := ⟨gb809, 0, none⟩) (Kd.R_types HO805.out BK809.out (by decide)) (fun _ hk => hk.2) (.int .i64 t806)) (fun _ hk => hk.2) (.int .i64 t807)) (fun _ hk => hk.1.2)⟩, ⟨by (with_reducible repeat (first | refine blk_drewN ?_ _ | refine blk_drew ?_ | refine blk_alloc ?_ _)); refine blk_put (cs := #[.int .i64 t806, .int .i64 0]) ?_ 1 _ rfl; (with_reducible repeat (first | refine blk_drewN ?_ _ | refine blk_drew ?_ | refine blk_alloc ?_ _)); refine blk_put (cs := #[.int .i64 0, .int .i64 0]) ?_ 0 _ rfl; (with_reducible repeat (first | refine blk_drewN ?_ _ | refine blk_drew ?_ | refine blk_alloc ?_ _)); exact BK809.out⟩, ⟨by repeat (first | (with_reducible first | exact HB.out | apply below_alloc | apply pw_below_drewN | apply below_drew1 | refine below_set ?_ GE809.out) | exact HB.out)⟩⟩
         case rest => as_aux_lemma =>
          clear HC21
          try clear c1
          try clear c2
          try clear p2
          try clear c3
          try clear c5
          try clear p6
          try clear p7
          try clear q7
          try clear hx7
          try clear c8
          try clear c8b0
          try clear c8b1
          try clear p8
          try clear q8
          try clear hx8
          try clear qi8
          try clear c10
          try clear c10b0
          try clear c10b1
          try clear c11
          try clear c11b0
          try clear c15
          try clear c18
          try clear c18b0
          try clear c19
          try clear c19b0
          try clear c29
          try clear c29b0
          try clear c29b1
          try clear c30
          try clear c30b0
          try clear c30b1
          try clear c31
          try clear c31b0
          try clear c31b1
          try clear hcz28_0
          try clear hcz28_1
          try clear hcz33_0
          try clear hcz33_1
          try clear hfz28_0
          try clear hfz28_1
          try clear hfz33_0
          try clear hfz33_1
          try clear hx798_0
          try clear hx799_0
          try clear hx810_0
          try clear p2
          try clear p798
          try clear p799
          try clear p810
          try clear q798
          try clear q799
          try clear q810
          obtain ⟨kq, x79_20, rfl, HA, HJ20, HO_7, HO_12, BK809, HB⟩ := hcut
          cases kq with
          | zero => exact absurd HA.out (by simp [plenumlaw21_SequencerWaits.j2])
          | succ kj20 =>
           have H := HA.out
           clear HA
           simp only [plenumlaw21_SequencerWaits.j2] at H
           by_cases c35 : x79_20 = true
           ·
            subst c35
            have H1 : (none) = some r := by rw [if_pos rfl] at H; exact H
            clear H
            have H := H1
            clear H1
            exact absurd H (by simp)
           ·
            replace c35 := Bool.eq_false_iff.mpr c35
            subst c35
            have H1 : (if (Go.bits .and .i64 (rd l1 x9_2) 1) = 0 then (if 0 < (t803.length : Int) then (if (rd t803 0) = 0 then (plenumlaw21_SequencerWaits.j5 kj20 l0 l1 a2 x7_2 x8_2 x9_2 t803) else (none)) else (none)) else (if 0 < (x7_2.length : Int) then (if (rd x7_2 0) = 0 then (if 0 < (t803.length : Int) then (if (rd t803 0) = 1 then (plenumlaw21_SequencerWaits.j5 kj20 l0 l1 a2 x7_2 x8_2 x9_2 t803) else (none)) else (none)) else (if 0 < (t803.length : Int) then (if (rd t803 0) = (rd x7_2 0) then (if 0 < (l0.length : Int) then (if (rd x7_2 0) < (rd l0 0) then (if (Go.bits .and .i64 ((rd l1 x9_2) / 2) 1) = 1 then (if 1 < (l0.length : Int) then (plenumlaw21_SequencerWaits.j3 kj20 l0 l1 a2 x7_2 x8_2 x9_2 t803 (decide ((wrap64 ((wrap64 (x9_2 - x8_2)) * a2)) ≥ (rd l0 1)))) else (none)) else (plenumlaw21_SequencerWaits.j3 kj20 l0 l1 a2 x7_2 x8_2 x9_2 t803 false)) else (plenumlaw21_SequencerWaits.j3 kj20 l0 l1 a2 x7_2 x8_2 x9_2 t803 false)) else (none)) else (if (rd t803 0) = (wrap64 ((rd x7_2 0) + 1)) then (if (Go.bits .and .i64 ((rd l1 x9_2) / 2) 1) = 0 then (plenumlaw21_SequencerWaits.j4 kj20 l0 l1 a2 x7_2 x8_2 x9_2 t803 true) else (if 1 < (l0.length : Int) then (if (wrap64 ((wrap64 (x9_2 - x8_2)) * a2)) < (rd l0 1) then (plenumlaw21_SequencerWaits.j4 kj20 l0 l1 a2 x7_2 x8_2 x9_2 t803 true) else (if 0 < (l0.length : Int) then (plenumlaw21_SequencerWaits.j4 kj20 l0 l1 a2 x7_2 x8_2 x9_2 t803 (decide ((rd t803 0) > (rd l0 0)))) else (none))) else (none))) else (plenumlaw21_SequencerWaits.j4 kj20 l0 l1 a2 x7_2 x8_2 x9_2 t803 true))) else (none))) else (none))) = some r := by rw [if_neg (show ¬ (false = true) by decide)] at H; exact H
            clear H
            have H := H1
            clear H1
            have HC36 := Aside0.mk H
            clear H
            go_upto_block 2 with (fail)
            repeat (go_quiet (fail); go_upto_block 2 with (fail))
            go_cut [] (fun wc => ∃ (kq : Nat), Aside0 (plenumlaw21_SequencerWaits.j5 kq l0 l1 a2 x7_2 x8_2 x9_2 t803 = some r) ∧ Aside0 (kq ≤ kj20) ∧ Aside0 (Kd.R (Kd.int .i64) 2 wc w.heap.size (fun k_ => some k_ ≠ (v804 : Value).ownBlock) (.slice Ao24 x7_2.length co24) x7_2) ∧ Aside0 (Kd.R (Kd.int .i64) 2 wc w.heap.size (fun k_ => some k_ ≠ ((.slice Ao24 x7_2.length co24) : Value).ownBlock) v804 t803) ∧ Aside0 (wc.heap[gb809]? = some (.cells #[.int .i64 t806, .int .i64 t807] 27 (0, 0))) ∧ Aside0 (Below w.heap.size w wc))
            case first =>
             have H := HC36.out
             clear HC36
             by_cases c37 : (Go.bits .and .i64 (rd l1 x9_2) 1) = 0
             ·
              rw [if_pos c37] at H
              have c37b0 : ((Go.bits .and .i64 (rd l1 x9_2) 1) == 0) = true := beq_iff_eq.mpr c37
              have c37b1 : ((Go.bits .and .i64 (rd l1 x9_2) 1) != 0) = false := bne_eq_false_iff_eq.mpr c37
              clear c37
              (first | rw [c37b0] | (simp only [i64_w, i32_w]; rw [c37b0]) | skip)
              by_cases c38 : 0 < (t803.length : Int)
              ·
               rw [if_pos c38] at H
               have c38b0 : decide (0 < (t803.length : Int)) = true := decide_eq_true c38
               have c38b1 : decide (0 < t803.length) = true := decide_eq_true (by omega)
               clear c38
               by_cases c39 : (rd t803 0) = 0
               ·
                rw [if_pos c39] at H
                have c39b0 : ((rd t803 0) == 0) = true := beq_iff_eq.mpr c39
                have c39b1 : ((rd t803 0) != 0) = false := bne_eq_false_iff_eq.mpr c39
                clear c39
                have H' := Aside0.mk H
                clear H
                obtain ⟨Ao40, co40, eo40⟩ := Kd.R_slice HO_12.out
                subst eo40
                have p811 : 0 ≤ (0 : Int) := (by omega)
                have q811 : 0 < (t803.length : Int) := of_decide_eq_true (by first | (with_reducible assumption) | assumption)
                obtain ⟨ad811, e811, hx811_0⟩ := Kd.at_int (Kd.R_reads' HO_12.out).2.2 0 p811 q811
                cases e811
                have qi811 : (0 < t803.length) = True := eq_true (by omega)
                (try rw [show ((0 : Int)).toNat = 0 from rfl] at hx811_0)
                (try rw [Addr.add_zero'] at hx811_0)
                replace p811 := eq_true p811
                replace q811 := eq_true q811
                go_wp2
                repeat (go_quiet (fail); try go_wp2)
                go_meet
                case rel => exact ⟨_, H', ⟨by have := HJ5.out; have := HK2.out; have := HJ20.out; first | omega | exact Nat.le_refl _⟩, ⟨by (with_reducible repeat (first | apply Kd.R_alloc | apply Kd.R_drewN | apply Kd.R_drew)); exact HO_7.out⟩, ⟨by (with_reducible repeat (first | apply Kd.R_alloc | apply Kd.R_drewN | apply Kd.R_drew)); exact HO_12.out⟩, ⟨by (with_reducible repeat (first | refine blk_drewN ?_ _ | refine blk_drew ?_ | refine blk_alloc ?_ _)); exact BK809.out⟩, ⟨by repeat (first | (with_reducible first | exact HB.out | apply below_alloc | apply pw_below_drewN | apply below_drew1 | refine below_set ?_ GE809.out) | exact HB.out)⟩⟩
               ·
                rw [if_neg c39] at H
                exact absurd H (by simp)
              ·
               rw [if_neg c38] at H
               exact absurd H (by simp)
             ·
              rw [if_neg c37] at H
              have c37b0 : ((Go.bits .and .i64 (rd l1 x9_2) 1) == 0) = false := beq_eq_false_iff_ne.mpr c37
              have c37b1 : ((Go.bits .and .i64 (rd l1 x9_2) 1) != 0) = true := bne_iff_ne.mpr c37
              (first | rw [c37b0] | (simp only [i64_w, i32_w]; rw [c37b0]) | skip)
              by_cases c41 : 0 < (x7_2.length : Int)
              ·
               rw [if_pos c41] at H
               have c41b0 : decide (0 < (x7_2.length : Int)) = true := decide_eq_true c41
               have c41b1 : decide (0 < x7_2.length) = true := decide_eq_true (by omega)
               clear c41
               by_cases c42 : (rd x7_2 0) = 0
               ·
                rw [if_pos c42] at H
                have c42b0 : ((rd x7_2 0) == 0) = true := beq_iff_eq.mpr c42
                have c42b1 : ((rd x7_2 0) != 0) = false := bne_eq_false_iff_eq.mpr c42
                clear c42
                by_cases c43 : 0 < (t803.length : Int)
                ·
                 rw [if_pos c43] at H
                 have c43b0 : decide (0 < (t803.length : Int)) = true := decide_eq_true c43
                 have c43b1 : decide (0 < t803.length) = true := decide_eq_true (by omega)
                 clear c43
                 by_cases c44 : (rd t803 0) = 1
                 ·
                  rw [if_pos c44] at H
                  have c44b0 : ((rd t803 0) == 1) = true := beq_iff_eq.mpr c44
                  have c44b1 : ((rd t803 0) != 1) = false := bne_eq_false_iff_eq.mpr c44
                  clear c44
                  have H' := Aside0.mk H
                  clear H
                  have p812 : 0 ≤ (0 : Int) := (by omega)
                  have q812 : 0 < (x7_2.length : Int) := of_decide_eq_true (by first | (with_reducible assumption) | assumption)
                  obtain ⟨ad812, e812, hx812_0⟩ := Kd.at_int (Kd.R_reads' HO_7.out).2.2 0 p812 q812
                  cases e812
                  have qi812 : (0 < x7_2.length) = True := eq_true (by omega)
                  (try rw [show ((0 : Int)).toNat = 0 from rfl] at hx812_0)
                  (try rw [Addr.add_zero'] at hx812_0)
                  replace p812 := eq_true p812
                  replace q812 := eq_true q812
                  obtain ⟨Ao45, co45, eo45⟩ := Kd.R_slice HO_12.out
                  subst eo45
                  have p813 : 0 ≤ (0 : Int) := (by omega)
                  have q813 : 0 < (t803.length : Int) := of_decide_eq_true (by first | (with_reducible assumption) | assumption)
                  obtain ⟨ad813, e813, hx813_0⟩ := Kd.at_int (Kd.R_reads' HO_12.out).2.2 0 p813 q813
                  cases e813
                  have qi813 : (0 < t803.length) = True := eq_true (by omega)
                  (try rw [show ((0 : Int)).toNat = 0 from rfl] at hx813_0)
                  (try rw [Addr.add_zero'] at hx813_0)
                  replace p813 := eq_true p813
                  replace q813 := eq_true q813
                  go_wp2
                  repeat (go_quiet (fail); try go_wp2)
                  go_meet
                  case rel => exact ⟨_, H', ⟨by have := HJ5.out; have := HK2.out; have := HJ20.out; first | omega | exact Nat.le_refl _⟩, ⟨by (with_reducible repeat (first | apply Kd.R_alloc | apply Kd.R_drewN | apply Kd.R_drew)); exact HO_7.out⟩, ⟨by (with_reducible repeat (first | apply Kd.R_alloc | apply Kd.R_drewN | apply Kd.R_drew)); exact HO_12.out⟩, ⟨by (with_reducible repeat (first | refine blk_drewN ?_ _ | refine blk_drew ?_ | refine blk_alloc ?_ _)); exact BK809.out⟩, ⟨by repeat (first | (with_reducible first | exact HB.out | apply below_alloc | apply pw_below_drewN | apply below_drew1 | refine below_set ?_ GE809.out) | exact HB.out)⟩⟩
                 ·
                  rw [if_neg c44] at H
                  exact absurd H (by simp)
                ·
                 rw [if_neg c43] at H
                 exact absurd H (by simp)
               ·
                rw [if_neg c42] at H
                have c42b0 : ((rd x7_2 0) == 0) = false := beq_eq_false_iff_ne.mpr c42
                have c42b1 : ((rd x7_2 0) != 0) = true := bne_iff_ne.mpr c42
                by_cases c46 : 0 < (t803.length : Int)
                ·
                 rw [if_pos c46] at H
                 have c46b0 : decide (0 < (t803.length : Int)) = true := decide_eq_true c46
                 have c46b1 : decide (0 < t803.length) = true := decide_eq_true (by omega)
                 clear c46
                 by_cases c47 : (rd t803 0) = (rd x7_2 0)
                 ·
                  rw [if_pos c47] at H
                  have c47b0 : ((rd t803 0) == (rd x7_2 0)) = true := beq_iff_eq.mpr c47
                  have c47b1 : ((rd t803 0) != (rd x7_2 0)) = false := bne_eq_false_iff_eq.mpr c47
                  clear c47
                  have HC48 := Aside0.mk H
                  clear H
                  have p812 : 0 ≤ (0 : Int) := (by omega)
                  have q812 : 0 < (x7_2.length : Int) := of_decide_eq_true (by first | (with_reducible assumption) | assumption)
                  obtain ⟨ad812, e812, hx812_0⟩ := Kd.at_int (Kd.R_reads' HO_7.out).2.2 0 p812 q812
                  cases e812
                  have qi812 : (0 < x7_2.length) = True := eq_true (by omega)
                  (try rw [show ((0 : Int)).toNat = 0 from rfl] at hx812_0)
                  (try rw [Addr.add_zero'] at hx812_0)
                  replace p812 := eq_true p812
                  replace q812 := eq_true q812
                  obtain ⟨Ao49, co49, eo49⟩ := Kd.R_slice HO_12.out
                  subst eo49
                  have p814 : 0 ≤ (0 : Int) := (by omega)
                  have q814 : 0 < (t803.length : Int) := of_decide_eq_true (by first | (with_reducible assumption) | assumption)
                  obtain ⟨ad814, e814, hx814_0⟩ := Kd.at_int (Kd.R_reads' HO_12.out).2.2 0 p814 q814
                  cases e814
                  have qi814 : (0 < t803.length) = True := eq_true (by omega)
                  (try rw [show ((0 : Int)).toNat = 0 from rfl] at hx814_0)
                  (try rw [Addr.add_zero'] at hx814_0)
                  replace p814 := eq_true p814
                  replace q814 := eq_true q814
                  have p815 : 0 ≤ (0 : Int) := (by omega)
                  have q815 : 0 < (x7_2.length : Int) := of_decide_eq_true (by first | (with_reducible assumption) | assumption)
                  obtain ⟨ad815, e815, hx815_0⟩ := Kd.at_int (Kd.R_reads' HO_7.out).2.2 0 p815 q815
                  obtain rfl : ad812 = ad815 := (by injection e815)
                  have qi815 : (0 < x7_2.length) = True := eq_true (by omega)
                  (try rw [show ((0 : Int)).toNat = 0 from rfl] at hx815_0)
                  (try rw [Addr.add_zero'] at hx815_0)
                  replace p815 := eq_true p815
                  replace q815 := eq_true q815
                  go_upto_region 13 with (fail)
                  repeat (go_quiet (fail); go_upto_region 13 with (fail))
                  go_cut [101] (fun v101 wc => ∃ (kq : Nat) (x101_47 : Bool), v101 = .bool x101_47 ∧ Aside0 (plenumlaw21_SequencerWaits.j3 kq l0 l1 a2 x7_2 x8_2 x9_2 t803 x101_47 = some r) ∧ Aside0 (kq ≤ kj20) ∧ Aside0 (Kd.R (Kd.int .i64) 2 wc w.heap.size (fun k_ => some k_ ≠ ((.slice (some ad814) t803.length co49) : Value).ownBlock) (.slice (some ad812) x7_2.length co24) x7_2) ∧ Aside0 (Kd.R (Kd.int .i64) 2 wc w.heap.size (fun k_ => some k_ ≠ ((.slice (some ad812) x7_2.length co24) : Value).ownBlock) (.slice (some ad814) t803.length co49) t803) ∧ Aside0 (wc.heap[gb809]? = some (.cells #[.int .i64 t806, .int .i64 t807] 27 (0, 0))) ∧ Aside0 (Below w.heap.size w wc))
                  case first =>
                   have H := HC48.out
                   clear HC48
                   by_cases c50 : 0 < (l0.length : Int)
                   ·
                    rw [if_pos c50] at H
                    have c50b0 : decide (0 < (l0.length : Int)) = true := decide_eq_true c50
                    have c50b1 : decide (0 < l0.length) = true := decide_eq_true (by omega)
                    clear c50
                    (first | rw [c50b0] | (simp only [i64_w, i32_w]; rw [c50b0]) | skip)
                    by_cases c51 : (rd x7_2 0) < (rd l0 0)
                    ·
                     rw [if_pos c51] at H
                     have c51b0 : decide ((rd x7_2 0) < (rd l0 0)) = true := decide_eq_true c51
                     clear c51
                     by_cases c52 : (Go.bits .and .i64 ((rd l1 x9_2) / 2) 1) = 1
                     ·
                      rw [if_pos c52] at H
                      have c52b0 : ((Go.bits .and .i64 ((rd l1 x9_2) / 2) 1) == 1) = true := beq_iff_eq.mpr c52
                      have c52b1 : ((Go.bits .and .i64 ((rd l1 x9_2) / 2) 1) != 1) = false := bne_eq_false_iff_eq.mpr c52
                      clear c52
                      by_cases c53 : 1 < (l0.length : Int)
                      ·
                       rw [if_pos c53] at H
                       have c53b0 : decide (1 < (l0.length : Int)) = true := decide_eq_true c53
                       have c53b1 : decide (1 < l0.length) = true := decide_eq_true (by omega)
                       clear c53
                       have H' := Aside0.mk H
                       clear H
                       have p816 : 0 ≤ (0 : Int) := (by omega)
                       have q816 : 0 < (x7_2.length : Int) := of_decide_eq_true (by first | (with_reducible assumption) | assumption)
                       obtain ⟨ad816, e816, hx816_0⟩ := Kd.at_int (Kd.R_reads' HO_7.out).2.2 0 p816 q816
                       obtain rfl : ad812 = ad816 := (by injection e816)
                       have qi816 : (0 < x7_2.length) = True := eq_true (by omega)
                       (try rw [show ((0 : Int)).toNat = 0 from rfl] at hx816_0)
                       (try rw [Addr.add_zero'] at hx816_0)
                       replace p816 := eq_true p816
                       replace q816 := eq_true q816
                       have p817 : 0 ≤ (0 : Int) := (by omega)
                       have q817 : 0 < (l0.length : Int) := of_decide_eq_true (by first | (with_reducible assumption) | assumption)
                       obtain ⟨ad817, e817, hx817_0⟩ := Kd.at_int HR0.out 0 p817 q817
                       cases e817
                       have qi817 : (0 < l0.length) = True := eq_true (by omega)
                       (try rw [show ((0 : Int)).toNat = 0 from rfl] at hx817_0)
                       (try rw [Addr.add_zero'] at hx817_0)
                       replace hx817_0 := (HB.out.cell (World.block_lt_of_cell? w _ hx817_0)).trans hx817_0
                       replace p817 := eq_true p817
                       replace q817 := eq_true q817
                       have p818 : 0 ≤ (1 : Int) := (by omega)
                       have q818 : 1 < (l0.length : Int) := of_decide_eq_true (by first | (with_reducible assumption) | assumption)
                       obtain ⟨ad818, e818, hx818_0⟩ := Kd.at_int HR0.out 1 p818 q818
                       obtain rfl : ad817 = ad818 := (by injection e818)
                       (try simp only [show (1 : Int).toNat = 1 from rfl, Nat.reduceMul, Nat.reduceEqDiff, Go.Addr.add, ↓reduceIte] at hx818_0)
                       have qi818 : (1 < l0.length) = True := eq_true (by omega)
                       (try rw [show ((1 : Int)).toNat = 1 from rfl] at hx818_0)
                       replace hx818_0 := (HB.out.cell (World.block_lt_of_cell? w _ hx818_0)).trans hx818_0
                       replace p818 := eq_true p818
                       replace q818 := eq_true q818
                       go_wp2
                       repeat (go_quiet (fail); try go_wp2)
                       go_meet
                       case rel => exact ⟨_, (decide ((wrap64 ((wrap64 (x9_2 - x8_2)) * a2)) ≥ (rd l0 1))), (by first | rfl | (simp; done) | (simp [*]; done)), H', ⟨by have := HJ5.out; have := HK2.out; have := HJ20.out; first | omega | exact Nat.le_refl _⟩, ⟨by (with_reducible repeat (first | apply Kd.R_alloc | apply Kd.R_drewN | apply Kd.R_drew)); exact HO_7.out⟩, ⟨by (with_reducible repeat (first | apply Kd.R_alloc | apply Kd.R_drewN | apply Kd.R_drew)); exact HO_12.out⟩, ⟨by (with_reducible repeat (first | refine blk_drewN ?_ _ | refine blk_drew ?_ | refine blk_alloc ?_ _)); exact BK809.out⟩, ⟨by repeat (first | (with_reducible first | exact HB.out | apply below_alloc | apply pw_below_drewN | apply below_drew1 | refine below_set ?_ GE809.out) | exact HB.out)⟩⟩
                      ·
                       rw [if_neg c53] at H
                       exact absurd H (by simp)
                     ·
                      rw [if_neg c52] at H
                      have c52b0 : ((Go.bits .and .i64 ((rd l1 x9_2) / 2) 1) == 1) = false := beq_eq_false_iff_ne.mpr c52
                      have c52b1 : ((Go.bits .and .i64 ((rd l1 x9_2) / 2) 1) != 1) = true := bne_iff_ne.mpr c52
                      have H' := Aside0.mk H
                      clear H
                      have p816 : 0 ≤ (0 : Int) := (by omega)
                      have q816 : 0 < (x7_2.length : Int) := of_decide_eq_true (by first | (with_reducible assumption) | assumption)
                      obtain ⟨ad816, e816, hx816_0⟩ := Kd.at_int (Kd.R_reads' HO_7.out).2.2 0 p816 q816
                      obtain rfl : ad812 = ad816 := (by injection e816)
                      have qi816 : (0 < x7_2.length) = True := eq_true (by omega)
                      (try rw [show ((0 : Int)).toNat = 0 from rfl] at hx816_0)
                      (try rw [Addr.add_zero'] at hx816_0)
                      replace p816 := eq_true p816
                      replace q816 := eq_true q816
                      have p817 : 0 ≤ (0 : Int) := (by omega)
                      have q817 : 0 < (l0.length : Int) := of_decide_eq_true (by first | (with_reducible assumption) | assumption)
                      obtain ⟨ad817, e817, hx817_0⟩ := Kd.at_int HR0.out 0 p817 q817
                      cases e817
                      have qi817 : (0 < l0.length) = True := eq_true (by omega)
                      (try rw [show ((0 : Int)).toNat = 0 from rfl] at hx817_0)
                      (try rw [Addr.add_zero'] at hx817_0)
                      replace hx817_0 := (HB.out.cell (World.block_lt_of_cell? w _ hx817_0)).trans hx817_0
                      replace p817 := eq_true p817
                      replace q817 := eq_true q817
                      go_wp2
                      repeat (go_quiet (fail); try go_wp2)
                      go_meet
                      case rel => exact ⟨_, (false), (by first | rfl | (simp; done) | (simp [*]; done)), H', ⟨by have := HJ5.out; have := HK2.out; have := HJ20.out; first | omega | exact Nat.le_refl _⟩, ⟨by (with_reducible repeat (first | apply Kd.R_alloc | apply Kd.R_drewN | apply Kd.R_drew)); exact HO_7.out⟩, ⟨by (with_reducible repeat (first | apply Kd.R_alloc | apply Kd.R_drewN | apply Kd.R_drew)); exact HO_12.out⟩, ⟨by (with_reducible repeat (first | refine blk_drewN ?_ _ | refine blk_drew ?_ | refine blk_alloc ?_ _)); exact BK809.out⟩, ⟨by repeat (first | (with_reducible first | exact HB.out | apply below_alloc | apply pw_below_drewN | apply below_drew1 | refine below_set ?_ GE809.out) | exact HB.out)⟩⟩
                    ·
                     rw [if_neg c51] at H
                     have c51b0 : decide ((rd x7_2 0) < (rd l0 0)) = false := decide_eq_false c51
                     clear c51
                     have H' := Aside0.mk H
                     clear H
                     have p816 : 0 ≤ (0 : Int) := (by omega)
                     have q816 : 0 < (x7_2.length : Int) := of_decide_eq_true (by first | (with_reducible assumption) | assumption)
                     obtain ⟨ad816, e816, hx816_0⟩ := Kd.at_int (Kd.R_reads' HO_7.out).2.2 0 p816 q816
                     obtain rfl : ad812 = ad816 := (by injection e816)
                     have qi816 : (0 < x7_2.length) = True := eq_true (by omega)
                     (try rw [show ((0 : Int)).toNat = 0 from rfl] at hx816_0)
                     (try rw [Addr.add_zero'] at hx816_0)
                     replace p816 := eq_true p816
                     replace q816 := eq_true q816
                     have p817 : 0 ≤ (0 : Int) := (by omega)
                     have q817 : 0 < (l0.length : Int) := of_decide_eq_true (by first | (with_reducible assumption) | assumption)
                     obtain ⟨ad817, e817, hx817_0⟩ := Kd.at_int HR0.out 0 p817 q817
                     cases e817
                     have qi817 : (0 < l0.length) = True := eq_true (by omega)
                     (try rw [show ((0 : Int)).toNat = 0 from rfl] at hx817_0)
                     (try rw [Addr.add_zero'] at hx817_0)
                     replace hx817_0 := (HB.out.cell (World.block_lt_of_cell? w _ hx817_0)).trans hx817_0
                     replace p817 := eq_true p817
                     replace q817 := eq_true q817
                     go_wp2
                     repeat (go_quiet (fail); try go_wp2)
                     go_meet
                     case rel => exact ⟨_, (false), (by first | rfl | (simp; done) | (simp [*]; done)), H', ⟨by have := HJ5.out; have := HK2.out; have := HJ20.out; first | omega | exact Nat.le_refl _⟩, ⟨by (with_reducible repeat (first | apply Kd.R_alloc | apply Kd.R_drewN | apply Kd.R_drew)); exact HO_7.out⟩, ⟨by (with_reducible repeat (first | apply Kd.R_alloc | apply Kd.R_drewN | apply Kd.R_drew)); exact HO_12.out⟩, ⟨by (with_reducible repeat (first | refine blk_drewN ?_ _ | refine blk_drew ?_ | refine blk_alloc ?_ _)); exact BK809.out⟩, ⟨by repeat (first | (with_reducible first | exact HB.out | apply below_alloc | apply pw_below_drewN | apply below_drew1 | refine below_set ?_ GE809.out) | exact HB.out)⟩⟩
                   ·
                    rw [if_neg c50] at H
                    exact absurd H (by simp)
                  case rest =>
                   clear HC48
                   try clear c1
                   try clear c2
                   try clear p2
                   try clear c3
                   try clear c4
                   try clear c5
                   try clear p6
                   try clear p7
                   try clear q7
                   try clear hx7
                   try clear c8
                   try clear c8b0
                   try clear c8b1
                   try clear p8
                   try clear q8
                   try clear hx8
                   try clear qi8
                   try clear c10
                   try clear c10b0
                   try clear c10b1
                   try clear c11
                   try clear c11b0
                   try clear c15
                   try clear c18
                   try clear c18b0
                   try clear c19
                   try clear c19b0
                   try clear c29
                   try clear c29b0
                   try clear c29b1
                   try clear c30
                   try clear c30b0
                   try clear c30b1
                   try clear c31
                   try clear c31b0
                   try clear c31b1
                   try clear c35
                   try clear c37
                   try clear c37b0
                   try clear c37b1
                   try clear c38
                   try clear c38b0
                   try clear c38b1
                   try clear c39
                   try clear c39b0
                   try clear c39b1
                   try clear c41
                   try clear c41b0
                   try clear c41b1
                   try clear c42
                   try clear c42b0
                   try clear c42b1
                   try clear c43
                   try clear c43b0
                   try clear c43b1
                   try clear c44
                   try clear c44b0
                   try clear c44b1
                   try clear c46
                   try clear c46b0
                   try clear c46b1
                   try clear c47
                   try clear c47b0
                   try clear c47b1
                   try clear c50
                   try clear c50b0
                   try clear c50b1
                   try clear c51
                   try clear c51b0
                   try clear c52
                   try clear c52b0
                   try clear c52b1
                   try clear c53
                   try clear c53b0
                   try clear c53b1
                   try clear hcz28_0
                   try clear hcz28_1
                   try clear hcz33_0
                   try clear hcz33_1
                   try clear hfz28_0
                   try clear hfz28_1
                   try clear hfz33_0
                   try clear hfz33_1
                   try clear hx798_0
                   try clear hx799_0
                   try clear hx810_0
                   try clear hx811_0
                   try clear hx812_0
                   try clear hx813_0
                   try clear hx814_0
                   try clear hx815_0
                   try clear hx816_0
                   try clear hx817_0
                   try clear hx818_0
                   try clear p2
                   try clear p6
                   try clear p7
                   try clear p798
                   try clear p799
                   try clear p8
                   try clear p810
                   try clear p811
                   try clear p812
                   try clear p813
                   try clear p814
                   try clear p815
                   try clear p816
                   try clear p817
                   try clear p818
                   try clear q7
                   try clear q798
                   try clear q799
                   try clear q8
                   try clear q810
                   try clear q811
                   try clear q812
                   try clear q813
                   try clear q814
                   try clear q815
                   try clear q816
                   try clear q817
                   try clear q818
                   obtain ⟨kq, x101_47, rfl, HA, HJ47, HO_7, HO_12, BK809, HB⟩ := hcut
                   cases kq with
                   | zero => exact absurd HA.out (by simp [plenumlaw21_SequencerWaits.j3])
                   | succ kj47 =>
                    have H := HA.out
                    clear HA
                    simp only [plenumlaw21_SequencerWaits.j3] at H
                    by_cases c54 : x101_47 = true
                    ·
                     subst c54
                     have H1 : (none) = some r := by rw [if_pos rfl] at H; exact H
                     clear H
                     have H := H1
                     clear H1
                     exact absurd H (by simp)
                    ·
                     replace c54 := Bool.eq_false_iff.mpr c54
                     subst c54
                     have H1 : (plenumlaw21_SequencerWaits.j5 kj47 l0 l1 a2 x7_2 x8_2 x9_2 t803) = some r := by rw [if_neg (show ¬ (false = true) by decide)] at H; exact H
                     clear H
                     have H := H1
                     clear H1
                     have H' := Aside0.mk H
                     clear H
                     go_wp2
                     repeat (go_quiet (fail); try go_wp2)
                     go_meet
                     case rel => exact ⟨_, H', ⟨by have := HJ5.out; have := HK2.out; have := HJ20.out; have := HJ47.out; first | omega | exact Nat.le_refl _⟩, ⟨by (with_reducible repeat (first | apply Kd.R_alloc | apply Kd.R_drewN | apply Kd.R_drew)); exact HO_7.out⟩, ⟨by (with_reducible repeat (first | apply Kd.R_alloc | apply Kd.R_drewN | apply Kd.R_drew)); exact HO_12.out⟩, ⟨by (with_reducible repeat (first | refine blk_drewN ?_ _ | refine blk_drew ?_ | refine blk_alloc ?_ _)); exact BK809.out⟩, ⟨by repeat (first | (with_reducible first | exact HB.out | apply below_alloc | apply pw_below_drewN | apply below_drew1 | refine below_set ?_ GE809.out) | exact HB.out)⟩⟩
                 ·
                  rw [if_neg c47] at H
                  have c47b0 : ((rd t803 0) == (rd x7_2 0)) = false := beq_eq_false_iff_ne.mpr c47
                  have c47b1 : ((rd t803 0) != (rd x7_2 0)) = true := bne_iff_ne.mpr c47
                  have HC55 := Aside0.mk H
                  clear H
                  have p812 : 0 ≤ (0 : Int) := (by omega)
                  have q812 : 0 < (x7_2.length : Int) := of_decide_eq_true (by first | (with_reducible assumption) | assumption)
                  obtain ⟨ad812, e812, hx812_0⟩ := Kd.at_int (Kd.R_reads' HO_7.out).2.2 0 p812 q812
                  cases e812
                  have qi812 : (0 < x7_2.length) = True := eq_true (by omega)
                  (try rw [show ((0 : Int)).toNat = 0 from rfl] at hx812_0)
                  (try rw [Addr.add_zero'] at hx812_0)
                  replace p812 := eq_true p812
                  replace q812 := eq_true q812
                  obtain ⟨Ao56, co56, eo56⟩ := Kd.R_slice HO_12.out
                  subst eo56
                  have p814 : 0 ≤ (0 : Int) := (by omega)
                  have q814 : 0 < (t803.length : Int) := of_decide_eq_true (by first | (with_reducible assumption) | assumption)
                  obtain ⟨ad814, e814, hx814_0⟩ := Kd.at_int (Kd.R_reads' HO_12.out).2.2 0 p814 q814
                  cases e814
                  have qi814 : (0 < t803.length) = True := eq_true (by omega)
                  (try rw [show ((0 : Int)).toNat = 0 from rfl] at hx814_0)
                  (try rw [Addr.add_zero'] at hx814_0)
                  replace p814 := eq_true p814
                  replace q814 := eq_true q814
                  have p815 : 0 ≤ (0 : Int) := (by omega)
                  have q815 : 0 < (x7_2.length : Int) := of_decide_eq_true (by first | (with_reducible assumption) | assumption)
                  obtain ⟨ad815, e815, hx815_0⟩ := Kd.at_int (Kd.R_reads' HO_7.out).2.2 0 p815 q815
                  obtain rfl : ad812 = ad815 := (by injection e815)
                  have qi815 : (0 < x7_2.length) = True := eq_true (by omega)
                  (try rw [show ((0 : Int)).toNat = 0 from rfl] at hx815_0)
                  (try rw [Addr.add_zero'] at hx815_0)
                  replace p815 := eq_true p815
                  replace q815 := eq_true q815
                  go_upto_region 22 with (fail)
                  repeat (go_quiet (fail); go_upto_region 22 with (fail))
                  go_cut [157] (fun v157 wc => ∃ (kq : Nat) (x157_54 : Bool), v157 = .bool x157_54 ∧ Aside0 (plenumlaw21_SequencerWaits.j4 kq l0 l1 a2 x7_2 x8_2 x9_2 t803 x157_54 = some r) ∧ Aside0 (kq ≤ kj20) ∧ Aside0 (Kd.R (Kd.int .i64) 2 wc w.heap.size (fun k_ => some k_ ≠ ((.slice (some ad814) t803.length co56) : Value).ownBlock) (.slice (some ad812) x7_2.length co24) x7_2) ∧ Aside0 (Kd.R (Kd.int .i64) 2 wc w.heap.size (fun k_ => some k_ ≠ ((.slice (some ad812) x7_2.length co24) : Value).ownBlock) (.slice (some ad814) t803.length co56) t803) ∧ Aside0 (wc.heap[gb809]? = some (.cells #[.int .i64 t806, .int .i64 t807] 27 (0, 0))) ∧ Aside0 (Below w.heap.size w wc))
                  case first =>
                   have H := HC55.out
                   clear HC55
                   by_cases c57 : (rd t803 0) = (wrap64 ((rd x7_2 0) + 1))
                   ·
                    rw [if_pos c57] at H
                    have c57b0 : ((rd t803 0) == (wrap64 ((rd x7_2 0) + 1))) = true := beq_iff_eq.mpr c57
                    have c57b1 : ((rd t803 0) != (wrap64 ((rd x7_2 0) + 1))) = false := bne_eq_false_iff_eq.mpr c57
                    clear c57
                    (first | rw [c57b0] | (simp only [i64_w, i32_w]; rw [c57b0]) | skip)
                    by_cases c58 : (Go.bits .and .i64 ((rd l1 x9_2) / 2) 1) = 0
                    ·
                     rw [if_pos c58] at H
                     have c58b0 : ((Go.bits .and .i64 ((rd l1 x9_2) / 2) 1) == 0) = true := beq_iff_eq.mpr c58
                     have c58b1 : ((Go.bits .and .i64 ((rd l1 x9_2) / 2) 1) != 0) = false := bne_eq_false_iff_eq.mpr c58
                     clear c58
                     have H' := Aside0.mk H
                     clear H
                     have p819 : 0 ≤ (0 : Int) := (by omega)
                     have q819 : 0 < (t803.length : Int) := of_decide_eq_true (by first | (with_reducible assumption) | assumption)
                     obtain ⟨ad819, e819, hx819_0⟩ := Kd.at_int (Kd.R_reads' HO_12.out).2.2 0 p819 q819
                     obtain rfl : ad814 = ad819 := (by injection e819)
                     have qi819 : (0 < t803.length) = True := eq_true (by omega)
                     (try rw [show ((0 : Int)).toNat = 0 from rfl] at hx819_0)
                     (try rw [Addr.add_zero'] at hx819_0)
                     replace p819 := eq_true p819
                     replace q819 := eq_true q819
                     have p820 : 0 ≤ (0 : Int) := (by omega)
                     have q820 : 0 < (x7_2.length : Int) := of_decide_eq_true (by first | (with_reducible assumption) | assumption)
                     obtain ⟨ad820, e820, hx820_0⟩ := Kd.at_int (Kd.R_reads' HO_7.out).2.2 0 p820 q820
                     obtain rfl : ad812 = ad820 := (by injection e820)
                     have qi820 : (0 < x7_2.length) = True := eq_true (by omega)
                     (try rw [show ((0 : Int)).toNat = 0 from rfl] at hx820_0)
                     (try rw [Addr.add_zero'] at hx820_0)
                     replace p820 := eq_true p820
                     replace q820 := eq_true q820
                     go_wp2
                     repeat (go_quiet (fail); try go_wp2)
                     go_meet
                     case rel => exact ⟨_, (true), (by first | rfl | (simp; done) | (simp [*]; done)), H', ⟨by have := HJ5.out; have := HK2.out; have := HJ20.out; first | omega | exact Nat.le_refl _⟩, ⟨by (with_reducible repeat (first | apply Kd.R_alloc | apply Kd.R_drewN | apply Kd.R_drew)); exact HO_7.out⟩, ⟨by (with_reducible repeat (first | apply Kd.R_alloc | apply Kd.R_drewN | apply Kd.R_drew)); exact HO_12.out⟩, ⟨by (with_reducible repeat (first | refine blk_drewN ?_ _ | refine blk_drew ?_ | refine blk_alloc ?_ _)); exact BK809.out⟩, ⟨by repeat (first | (with_reducible first | exact HB.out | apply below_alloc | apply pw_below_drewN | apply below_drew1 | refine below_set ?_ GE809.out) | exact HB.out)⟩⟩
                    ·
                     rw [if_neg c58] at H
                     have c58b0 : ((Go.bits .and .i64 ((rd l1 x9_2) / 2) 1) == 0) = false := beq_eq_false_iff_ne.mpr c58
                     have c58b1 : ((Go.bits .and .i64 ((rd l1 x9_2) / 2) 1) != 0) = true := bne_iff_ne.mpr c58
                     by_cases c59 : 1 < (l0.length : Int)
                     ·
                      rw [if_pos c59] at H
                      have c59b0 : decide (1 < (l0.length : Int)) = true := decide_eq_true c59
                      have c59b1 : decide (1 < l0.length) = true := decide_eq_true (by omega)
                      clear c59
                      by_cases c60 : (wrap64 ((wrap64 (x9_2 - x8_2)) * a2)) < (rd l0 1)
                      ·
                       rw [if_pos c60] at H
                       have c60b0 : decide ((wrap64 ((wrap64 (x9_2 - x8_2)) * a2)) < (rd l0 1)) = true := decide_eq_true c60
                       clear c60
                       have H' := Aside0.mk H
                       clear H
                       have p819 : 0 ≤ (0 : Int) := (by omega)
                       have q819 : 0 < (t803.length : Int) := of_decide_eq_true (by first | (with_reducible assumption) | assumption)
                       obtain ⟨ad819, e819, hx819_0⟩ := Kd.at_int (Kd.R_reads' HO_12.out).2.2 0 p819 q819
                       obtain rfl : ad814 = ad819 := (by injection e819)
                       have qi819 : (0 < t803.length) = True := eq_true (by omega)
                       (try rw [show ((0 : Int)).toNat = 0 from rfl] at hx819_0)
                       (try rw [Addr.add_zero'] at hx819_0)
                       replace p819 := eq_true p819
                       replace q819 := eq_true q819
                       have p820 : 0 ≤ (0 : Int) := (by omega)
                       have q820 : 0 < (x7_2.length : Int) := of_decide_eq_true (by first | (with_reducible assumption) | assumption)
                       obtain ⟨ad820, e820, hx820_0⟩ := Kd.at_int (Kd.R_reads' HO_7.out).2.2 0 p820 q820
                       obtain rfl : ad812 = ad820 := (by injection e820)
                       have qi820 : (0 < x7_2.length) = True := eq_true (by omega)
                       (try rw [show ((0 : Int)).toNat = 0 from rfl] at hx820_0)
                       (try rw [Addr.add_zero'] at hx820_0)
                       replace p820 := eq_true p820
                       replace q820 := eq_true q820
                       have p821 : 0 ≤ (1 : Int) := (by omega)
                       have q821 : 1 < (l0.length : Int) := of_decide_eq_true (by first | (with_reducible assumption) | assumption)
                       obtain ⟨ad821, e821, hx821_0⟩ := Kd.at_int HR0.out 1 p821 q821
                       cases e821
                       (try simp only [show (1 : Int).toNat = 1 from rfl, Nat.reduceMul, Nat.reduceEqDiff, Go.Addr.add, ↓reduceIte] at hx821_0)
                       have qi821 : (1 < l0.length) = True := eq_true (by omega)
                       (try rw [show ((1 : Int)).toNat = 1 from rfl] at hx821_0)
                       replace hx821_0 := (HB.out.cell (World.block_lt_of_cell? w _ hx821_0)).trans hx821_0
                       replace p821 := eq_true p821
                       replace q821 := eq_true q821
                       go_wp2
                       repeat (go_quiet (fail); try go_wp2)
                       go_meet
                       case rel => exact ⟨_, (true), (by first | rfl | (simp; done) | (simp [*]; done)), H', ⟨by have := HJ5.out; have := HK2.out; have := HJ20.out; first | omega | exact Nat.le_refl _⟩, ⟨by (with_reducible repeat (first | apply Kd.R_alloc | apply Kd.R_drewN | apply Kd.R_drew)); exact HO_7.out⟩, ⟨by (with_reducible repeat (first | apply Kd.R_alloc | apply Kd.R_drewN | apply Kd.R_drew)); exact HO_12.out⟩, ⟨by (with_reducible repeat (first | refine blk_drewN ?_ _ | refine blk_drew ?_ | refine blk_alloc ?_ _)); exact BK809.out⟩, ⟨by repeat (first | (with_reducible first | exact HB.out | apply below_alloc | apply pw_below_drewN | apply below_drew1 | refine below_set ?_ GE809.out) | exact HB.out)⟩⟩
                      ·
                       rw [if_neg c60] at H
                       have c60b0 : decide ((wrap64 ((wrap64 (x9_2 - x8_2)) * a2)) < (rd l0 1)) = false := decide_eq_false c60
                       clear c60
                       by_cases c61 : 0 < (l0.length : Int)
                       ·
                        rw [if_pos c61] at H
                        have c61b0 : decide (0 < (l0.length : Int)) = true := decide_eq_true c61
                        have c61b1 : decide (0 < l0.length) = true := decide_eq_true (by omega)
                        clear c61
                        have H' := Aside0.mk H
                        clear H
                        have p819 : 0 ≤ (0 : Int) := (by omega)
                        have q819 : 0 < (t803.length : Int) := of_decide_eq_true (by first | (with_reducible assumption) | assumption)
                        obtain ⟨ad819, e819, hx819_0⟩ := Kd.at_int (Kd.R_reads' HO_12.out).2.2 0 p819 q819
                        obtain rfl : ad814 = ad819 := (by injection e819)
                        have qi819 : (0 < t803.length) = True := eq_true (by omega)
                        (try rw [show ((0 : Int)).toNat = 0 from rfl] at hx819_0)
                        (try rw [Addr.add_zero'] at hx819_0)
                        replace p819 := eq_true p819
                        replace q819 := eq_true q819
                        have p820 : 0 ≤ (0 : Int) := (by omega)
                        have q820 : 0 < (x7_2.length : Int) := of_decide_eq_true (by first | (with_reducible assumption) | assumption)
                        obtain ⟨ad820, e820, hx820_0⟩ := Kd.at_int (Kd.R_reads' HO_7.out).2.2 0 p820 q820
                        obtain rfl : ad812 = ad820 := (by injection e820)
                        have qi820 : (0 < x7_2.length) = True := eq_true (by omega)
                        (try rw [show ((0 : Int)).toNat = 0 from rfl] at hx820_0)
                        (try rw [Addr.add_zero'] at hx820_0)
                        replace p820 := eq_true p820
                        replace q820 := eq_true q820
                        have p821 : 0 ≤ (1 : Int) := (by omega)
                        have q821 : 1 < (l0.length : Int) := of_decide_eq_true (by first | (with_reducible assumption) | assumption)
                        obtain ⟨ad821, e821, hx821_0⟩ := Kd.at_int HR0.out 1 p821 q821
                        cases e821
                        (try simp only [show (1 : Int).toNat = 1 from rfl, Nat.reduceMul, Nat.reduceEqDiff, Go.Addr.add, ↓reduceIte] at hx821_0)
                        have qi821 : (1 < l0.length) = True := eq_true (by omega)
                        (try rw [show ((1 : Int)).toNat = 1 from rfl] at hx821_0)
                        replace hx821_0 := (HB.out.cell (World.block_lt_of_cell? w _ hx821_0)).trans hx821_0
                        replace p821 := eq_true p821
                        replace q821 := eq_true q821
                        have p822 : 0 ≤ (0 : Int) := (by omega)
                        have q822 : 0 < (t803.length : Int) := of_decide_eq_true (by first | (with_reducible assumption) | assumption)
                        obtain ⟨ad822, e822, hx822_0⟩ := Kd.at_int (Kd.R_reads' HO_12.out).2.2 0 p822 q822
                        obtain rfl : ad814 = ad822 := (by injection e822)
                        have qi822 : (0 < t803.length) = True := eq_true (by omega)
                        (try rw [show ((0 : Int)).toNat = 0 from rfl] at hx822_0)
                        (try rw [Addr.add_zero'] at hx822_0)
                        replace p822 := eq_true p822
                        replace q822 := eq_true q822
                        have p823 : 0 ≤ (0 : Int) := (by omega)
                        have q823 : 0 < (l0.length : Int) := of_decide_eq_true (by first | (with_reducible assumption) | assumption)
                        obtain ⟨ad823, e823, hx823_0⟩ := Kd.at_int HR0.out 0 p823 q823
                        obtain rfl : ad821 = ad823 := (by injection e823)
                        have qi823 : (0 < l0.length) = True := eq_true (by omega)
                        (try rw [show ((0 : Int)).toNat = 0 from rfl] at hx823_0)
                        (try rw [Addr.add_zero'] at hx823_0)
                        replace hx823_0 := (HB.out.cell (World.block_lt_of_cell? w _ hx823_0)).trans hx823_0
                        replace p823 := eq_true p823
                        replace q823 := eq_true q823
                        go_wp2
                        repeat (go_quiet (fail); try go_wp2)
                        go_meet
                        case rel => exact ⟨_, (decide ((rd t803 0) > (rd l0 0))), (by first | rfl | (simp; done) | (simp [*]; done)), H', ⟨by have := HJ5.out; have := HK2.out; have := HJ20.out; first | omega | exact Nat.le_refl _⟩, ⟨by (with_reducible repeat (first | apply Kd.R_alloc | apply Kd.R_drewN | apply Kd.R_drew)); exact HO_7.out⟩, ⟨by (with_reducible repeat (first | apply Kd.R_alloc | apply Kd.R_drewN | apply Kd.R_drew)); exact HO_12.out⟩, ⟨by (with_reducible repeat (first | refine blk_drewN ?_ _ | refine blk_drew ?_ | refine blk_alloc ?_ _)); exact BK809.out⟩, ⟨by repeat (first | (with_reducible first | exact HB.out | apply below_alloc | apply pw_below_drewN | apply below_drew1 | refine below_set ?_ GE809.out) | exact HB.out)⟩⟩
                       ·
                        rw [if_neg c61] at H
                        exact absurd H (by simp)
                     ·
                      rw [if_neg c59] at H
                      exact absurd H (by simp)
                   ·
                    rw [if_neg c57] at H
                    have c57b0 : ((rd t803 0) == (wrap64 ((rd x7_2 0) + 1))) = false := beq_eq_false_iff_ne.mpr c57
                    have c57b1 : ((rd t803 0) != (wrap64 ((rd x7_2 0) + 1))) = true := bne_iff_ne.mpr c57
                    (first | rw [c57b0] | (simp only [i64_w, i32_w]; rw [c57b0]) | skip)
                    have H' := Aside0.mk H
                    clear H
                    have p819 : 0 ≤ (0 : Int) := (by omega)
                    have q819 : 0 < (t803.length : Int) := of_decide_eq_true (by first | (with_reducible assumption) | assumption)
                    obtain ⟨ad819, e819, hx819_0⟩ := Kd.at_int (Kd.R_reads' HO_12.out).2.2 0 p819 q819
                    obtain rfl : ad814 = ad819 := (by injection e819)
                    have qi819 : (0 < t803.length) = True := eq_true (by omega)
                    (try rw [show ((0 : Int)).toNat = 0 from rfl] at hx819_0)
                    (try rw [Addr.add_zero'] at hx819_0)
                    replace p819 := eq_true p819
                    replace q819 := eq_true q819
                    have p820 : 0 ≤ (0 : Int) := (by omega)
                    have q820 : 0 < (x7_2.length : Int) := of_decide_eq_true (by first | (with_reducible assumption) | assumption)
                    obtain ⟨ad820, e820, hx820_0⟩ := Kd.at_int (Kd.R_reads' HO_7.out).2.2 0 p820 q820
                    obtain rfl : ad812 = ad820 := (by injection e820)
                    have qi820 : (0 < x7_2.length) = True := eq_true (by omega)
                    (try rw [show ((0 : Int)).toNat = 0 from rfl] at hx820_0)
                    (try rw [Addr.add_zero'] at hx820_0)
                    replace p820 := eq_true p820
                    replace q820 := eq_true q820
                    go_wp2
                    repeat (go_quiet (fail); try go_wp2)
                    go_meet
                    case rel => exact ⟨_, (true), (by first | rfl | (simp; done) | (simp [*]; done)), H', ⟨by have := HJ5.out; have := HK2.out; have := HJ20.out; first | omega | exact Nat.le_refl _⟩, ⟨by (with_reducible repeat (first | apply Kd.R_alloc | apply Kd.R_drewN | apply Kd.R_drew)); exact HO_7.out⟩, ⟨by (with_reducible repeat (first | apply Kd.R_alloc | apply Kd.R_drewN | apply Kd.R_drew)); exact HO_12.out⟩, ⟨by (with_reducible repeat (first | refine blk_drewN ?_ _ | refine blk_drew ?_ | refine blk_alloc ?_ _)); exact BK809.out⟩, ⟨by repeat (first | (with_reducible first | exact HB.out | apply below_alloc | apply pw_below_drewN | apply below_drew1 | refine below_set ?_ GE809.out) | exact HB.out)⟩⟩
                  case rest =>
                   clear HC55
                   try clear c1
                   try clear c2
                   try clear p2
                   try clear c3
                   try clear c4
                   try clear c5
                   try clear c6
                   try clear p6
                   try clear p7
                   try clear q7
                   try clear hx7
                   try clear c8
                   try clear c8b0
                   try clear c8b1
                   try clear p8
                   try clear q8
                   try clear hx8
                   try clear qi8
                   try clear c10
                   try clear c10b0
                   try clear c10b1
                   try clear c11
                   try clear c11b0
                   try clear c15
                   try clear c18
                   try clear c18b0
                   try clear c19
                   try clear c19b0
                   try clear c29
                   try clear c29b0
                   try clear c29b1
                   try clear c30
                   try clear c30b0
                   try clear c30b1
                   try clear c31
                   try clear c31b0
                   try clear c31b1
                   try clear c35
                   try clear c37
                   try clear c37b0
                   try clear c37b1
                   try clear c38
                   try clear c38b0
                   try clear c38b1
                   try clear c39
                   try clear c39b0
                   try clear c39b1
                   try clear c41
                   try clear c41b0
                   try clear c41b1
                   try clear c42
                   try clear c42b0
                   try clear c42b1
                   try clear c43
                   try clear c43b0
                   try clear c43b1
                   try clear c44
                   try clear c44b0
                   try clear c44b1
                   try clear c46
                   try clear c46b0
                   try clear c46b1
                   try clear c47
                   try clear c47b0
                   try clear c47b1
                   try clear c50
                   try clear c50b0
                   try clear c50b1
                   try clear c51
                   try clear c51b0
                   try clear c52
                   try clear c52b0
                   try clear c52b1
                   try clear c53
                   try clear c53b0
                   try clear c53b1
                   try clear c54
                   try clear c57
                   try clear c57b0
                   try clear c57b1
                   try clear c58
                   try clear c58b0
                   try clear c58b1
                   try clear c59
                   try clear c59b0
                   try clear c59b1
                   try clear c60
                   try clear c60b0
                   try clear c61
                   try clear c61b0
                   try clear c61b1
                   try clear hcz28_0
                   try clear hcz28_1
                   try clear hcz33_0
                   try clear hcz33_1
                   try clear hfz28_0
                   try clear hfz28_1
                   try clear hfz33_0
                   try clear hfz33_1
                   try clear hx798_0
                   try clear hx799_0
                   try clear hx810_0
                   try clear hx811_0
                   try clear hx812_0
                   try clear hx813_0
                   try clear hx814_0
                   try clear hx815_0
                   try clear hx816_0
                   try clear hx817_0
                   try clear hx818_0
                   try clear hx819_0
                   try clear hx820_0
                   try clear hx821_0
                   try clear hx822_0
                   try clear hx823_0
                   try clear p2
                   try clear p6
                   try clear p7
                   try clear p798
                   try clear p799
                   try clear p8
                   try clear p810
                   try clear p811
                   try clear p812
                   try clear p813
                   try clear p814
                   try clear p815
                   try clear p816
                   try clear p817
                   try clear p818
                   try clear p819
                   try clear p820
                   try clear p821
                   try clear p822
                   try clear p823
                   try clear q7
                   try clear q798
                   try clear q799
                   try clear q8
                   try clear q810
                   try clear q811
                   try clear q812
                   try clear q813
                   try clear q814
                   try clear q815
                   try clear q816
                   try clear q817
                   try clear q818
                   try clear q819
                   try clear q820
                   try clear q821
                   try clear q822
                   try clear q823
                   obtain ⟨kq, x157_54, rfl, HA, HJ54, HO_7, HO_12, BK809, HB⟩ := hcut
                   cases kq with
                   | zero => exact absurd HA.out (by simp [plenumlaw21_SequencerWaits.j4])
                   | succ kj54 =>
                    have H := HA.out
                    clear HA
                    simp only [plenumlaw21_SequencerWaits.j4] at H
                    by_cases c62 : x157_54 = true
                    ·
                     subst c62
                     have H1 : (none) = some r := by rw [if_pos rfl] at H; exact H
                     clear H
                     have H := H1
                     clear H1
                     exact absurd H (by simp)
                    ·
                     replace c62 := Bool.eq_false_iff.mpr c62
                     subst c62
                     have H1 : (plenumlaw21_SequencerWaits.j5 kj54 l0 l1 a2 x7_2 x8_2 x9_2 t803) = some r := by rw [if_neg (show ¬ (false = true) by decide)] at H; exact H
                     clear H
                     have H := H1
                     clear H1
                     have H' := Aside0.mk H
                     clear H
                     go_wp2
                     repeat (go_quiet (fail); try go_wp2)
                     go_meet
                     case rel => exact ⟨_, H', ⟨by have := HJ5.out; have := HK2.out; have := HJ20.out; have := HJ54.out; first | omega | exact Nat.le_refl _⟩, ⟨by (with_reducible repeat (first | apply Kd.R_alloc | apply Kd.R_drewN | apply Kd.R_drew)); exact HO_7.out⟩, ⟨by (with_reducible repeat (first | apply Kd.R_alloc | apply Kd.R_drewN | apply Kd.R_drew)); exact HO_12.out⟩, ⟨by (with_reducible repeat (first | refine blk_drewN ?_ _ | refine blk_drew ?_ | refine blk_alloc ?_ _)); exact BK809.out⟩, ⟨by repeat (first | (with_reducible first | exact HB.out | apply below_alloc | apply pw_below_drewN | apply below_drew1 | refine below_set ?_ GE809.out) | exact HB.out)⟩⟩
                ·
                 rw [if_neg c46] at H
                 exact absurd H (by simp)
              ·
               rw [if_neg c41] at H
               exact absurd H (by simp)
            case rest =>
             clear HC36
             try clear c1
             try clear c2
             try clear p2
             try clear c3
             try clear c4
             try clear c5
             try clear c6
             try clear p6
             try clear p7
             try clear q7
             try clear hx7
             try clear c8
             try clear c8b0
             try clear c8b1
             try clear p8
             try clear q8
             try clear hx8
             try clear qi8
             try clear c10
             try clear c10b0
             try clear c10b1
             try clear c11
             try clear c11b0
             try clear c15
             try clear c18
             try clear c18b0
             try clear c19
             try clear c19b0
             try clear c29
             try clear c29b0
             try clear c29b1
             try clear c30
             try clear c30b0
             try clear c30b1
             try clear c31
             try clear c31b0
             try clear c31b1
             try clear c35
             try clear c37
             try clear c37b0
             try clear c37b1
             try clear c38
             try clear c38b0
             try clear c38b1
             try clear c39
             try clear c39b0
             try clear c39b1
             try clear c41
             try clear c41b0
             try clear c41b1
             try clear c42
             try clear c42b0
             try clear c42b1
             try clear c43
             try clear c43b0
             try clear c43b1
             try clear c44
             try clear c44b0
             try clear c44b1
             try clear c46
             try clear c46b0
             try clear c46b1
             try clear c47
             try clear c47b0
             try clear c47b1
             try clear c50
             try clear c50b0
             try clear c50b1
             try clear c51
             try clear c51b0
             try clear c52
             try clear c52b0
             try clear c52b1
             try clear c53
             try clear c53b0
             try clear c53b1
             try clear c54
             try clear c57
             try clear c57b0
             try clear c57b1
             try clear c58
             try clear c58b0
             try clear c58b1
             try clear c59
             try clear c59b0
             try clear c59b1
             try clear c60
             try clear c60b0
             try clear c61
             try clear c61b0
             try clear c61b1
             try clear c62
             try clear hcz28_0
             try clear hcz28_1
             try clear hcz33_0
             try clear hcz33_1
             try clear hfz28_0
             try clear hfz28_1
             try clear hfz33_0
             try clear hfz33_1
             try clear hx798_0
             try clear hx799_0
             try clear hx810_0
             try clear hx811_0
             try clear hx812_0
             try clear hx813_0
             try clear hx814_0
             try clear hx815_0
             try clear hx816_0
             try clear hx817_0
             try clear hx818_0
             try clear hx819_0
             try clear hx820_0
             try clear hx821_0
             try clear hx822_0
             try clear hx823_0
             try clear p2
             try clear p6
             try clear p7
             try clear p798
             try clear p799
             try clear p8
             try clear p810
             try clear p811
             try clear p812
             try clear p813
             try clear p814
             try clear p815
             try clear p816
             try clear p817
             try clear p818
             try clear p819
             try clear p820
             try clear p821
             try clear p822
             try clear p823
             try clear q7
             try clear q798
             try clear q799
             try clear q8
             try clear q810
             try clear q811
             try clear q812
             try clear q813
             try clear q814
             try clear q815
             try clear q816
             try clear q817
             try clear q818
             try clear q819
             try clear q820
             try clear q821
             try clear q822
             try clear q823
             obtain ⟨kq, HA, HJ35, HO_7, HO_12, BK809, HB⟩ := hcut
             cases kq with
             | zero => exact absurd HA.out (by simp [plenumlaw21_SequencerWaits.j5])
             | succ kj35 =>
              have H := HA.out
              clear HA
              simp only [plenumlaw21_SequencerWaits.j5] at H
              by_cases c63 : 0 < (t803.length : Int)
              ·
               rw [if_pos c63] at H
               have c63b0 : decide (0 < (t803.length : Int)) = true := decide_eq_true c63
               have c63b1 : decide (0 < t803.length) = true := decide_eq_true (by omega)
               clear c63
               by_cases c64 : 0 < (x7_2.length : Int)
               ·
                rw [if_pos c64] at H
                have c64b0 : decide (0 < (x7_2.length : Int)) = true := decide_eq_true c64
                have c64b1 : decide (0 < x7_2.length) = true := decide_eq_true (by omega)
                clear c64
                by_cases c65 : (rd t803 0) = (rd x7_2 0)
                ·
                 rw [if_pos c65] at H
                 have c65b0 : ((rd t803 0) == (rd x7_2 0)) = true := beq_iff_eq.mpr c65
                 have c65b1 : ((rd t803 0) != (rd x7_2 0)) = false := bne_eq_false_iff_eq.mpr c65
                 clear c65
                 have H' := Aside0.mk H
                 clear H
                 obtain ⟨Ao66, co66, eo66⟩ := Kd.R_slice HO_12.out
                 subst eo66
                 have p824 : 0 ≤ (0 : Int) := (by omega)
                 have q824 : 0 < (t803.length : Int) := of_decide_eq_true (by first | (with_reducible assumption) | assumption)
                 obtain ⟨ad824, e824, hx824_0⟩ := Kd.at_int (Kd.R_reads' HO_12.out).2.2 0 p824 q824
                 cases e824
                 have qi824 : (0 < t803.length) = True := eq_true (by omega)
                 (try rw [show ((0 : Int)).toNat = 0 from rfl] at hx824_0)
                 (try rw [Addr.add_zero'] at hx824_0)
                 replace p824 := eq_true p824
                 replace q824 := eq_true q824
                 have p825 : 0 ≤ (0 : Int) := (by omega)
                 have q825 : 0 < (x7_2.length : Int) := of_decide_eq_true (by first | (with_reducible assumption) | assumption)
                 obtain ⟨ad825, e825, hx825_0⟩ := Kd.at_int (Kd.R_reads' HO_7.out).2.2 0 p825 q825
                 cases e825
                 have qi825 : (0 < x7_2.length) = True := eq_true (by omega)
                 (try rw [show ((0 : Int)).toNat = 0 from rfl] at hx825_0)
                 (try rw [Addr.add_zero'] at hx825_0)
                 replace p825 := eq_true p825
                 replace q825 := eq_true q825
                 go_wp2
                 repeat (go_quiet (fail); try go_wp2)
                 go_roundg kj35
                 case measure => have := HJ5.out; have := HK2.out; have := HJ20.out; have := HJ35.out; omega
                 case rel => exact ⟨(t803), (x8_2), (wrap64 (x9_2 + 1)), (by first | rfl | (simp; done) | (simp [*]; done)), (by first | rfl | (simp; done) | (simp [*]; done)), H', ⟨by have := HJ5.out; have := HK2.out; have := HJ20.out; have := HJ35.out; omega⟩, ⟨by (with_reducible repeat (first | apply Kd.R_alloc | apply Kd.R_drewN | apply Kd.R_drew)); exact Kd.R_mono HO_12.out (fun _ hk => trivial)⟩, ⟨by repeat (first | (with_reducible first | exact HB.out | apply below_alloc | apply pw_below_drewN | apply below_drew1 | refine below_set ?_ GE809.out) | exact HB.out)⟩⟩
                ·
                 rw [if_neg c65] at H
                 have c65b0 : ((rd t803 0) == (rd x7_2 0)) = false := beq_eq_false_iff_ne.mpr c65
                 have c65b1 : ((rd t803 0) != (rd x7_2 0)) = true := bne_iff_ne.mpr c65
                 have H' := Aside0.mk H
                 clear H
                 obtain ⟨Ao67, co67, eo67⟩ := Kd.R_slice HO_12.out
                 subst eo67
                 have p824 : 0 ≤ (0 : Int) := (by omega)
                 have q824 : 0 < (t803.length : Int) := of_decide_eq_true (by first | (with_reducible assumption) | assumption)
                 obtain ⟨ad824, e824, hx824_0⟩ := Kd.at_int (Kd.R_reads' HO_12.out).2.2 0 p824 q824
                 cases e824
                 have qi824 : (0 < t803.length) = True := eq_true (by omega)
                 (try rw [show ((0 : Int)).toNat = 0 from rfl] at hx824_0)
                 (try rw [Addr.add_zero'] at hx824_0)
                 replace p824 := eq_true p824
                 replace q824 := eq_true q824
                 have p825 : 0 ≤ (0 : Int) := (by omega)
                 have q825 : 0 < (x7_2.length : Int) := of_decide_eq_true (by first | (with_reducible assumption) | assumption)
                 obtain ⟨ad825, e825, hx825_0⟩ := Kd.at_int (Kd.R_reads' HO_7.out).2.2 0 p825 q825
                 cases e825
                 have qi825 : (0 < x7_2.length) = True := eq_true (by omega)
                 (try rw [show ((0 : Int)).toNat = 0 from rfl] at hx825_0)
                 (try rw [Addr.add_zero'] at hx825_0)
                 replace p825 := eq_true p825
                 replace q825 := eq_true q825
                 go_wp2
                 repeat (go_quiet (fail); try go_wp2)
                 go_roundg kj35
                 case measure => have := HJ5.out; have := HK2.out; have := HJ20.out; have := HJ35.out; omega
                 case rel => exact ⟨(t803), (x9_2), (wrap64 (x9_2 + 1)), (by first | rfl | (simp; done) | (simp [*]; done)), (by first | rfl | (simp; done) | (simp [*]; done)), H', ⟨by have := HJ5.out; have := HK2.out; have := HJ20.out; have := HJ35.out; omega⟩, ⟨by (with_reducible repeat (first | apply Kd.R_alloc | apply Kd.R_drewN | apply Kd.R_drew)); exact Kd.R_mono HO_12.out (fun _ hk => trivial)⟩, ⟨by repeat (first | (with_reducible first | exact HB.out | apply below_alloc | apply pw_below_drewN | apply below_drew1 | refine below_set ?_ GE809.out) | exact HB.out)⟩⟩
               ·
                rw [if_neg c64] at H
                exact absurd H (by simp)
              ·
               rw [if_neg c63] at H
               exact absurd H (by simp)
        ·
         rw [if_neg c19] at H
         exact absurd H (by simp)
       ·
        rw [if_neg c18] at H
        have c18b0 : decide (x9_2 < (l1.length : Int)) = false := decide_eq_false c18
        clear c18
        obtain rfl := Option.some.inj H
        go_wp2
        repeat (go_quiet (fail); try go_wp2)
        go_ret
        exact ⟨by first | rfl | (simp [errW_none, errW_some] <;> rfl) | (simp [*, errW_none, errW_some] <;> rfl), bl⟩
 ·
  replace c5 := Bool.eq_false_iff.mpr c5
  subst c5
  have H1 : (none) = some r := by rw [if_neg (show ¬ (false = true) by decide)] at H; exact H
  clear H
  have H := H1
  clear H1
  exact absurd H (by simp)

/-- THE ONE PURE STATEMENT of plenumlaw21_SequencerWaits: yours. -/
def plenumlaw21_SequencerWaits.Pure : Prop := ∀ (l0 : List Int) (l1 : List Int) (a2 : Int), l0.length ≤ maxLen → l0.length * 8 ≤ 140737488351232 → (∀ x ∈ l0, (Lit.int .i64 x).wf = true) → l1.length ≤ maxLen → l1.length * 8 ≤ 140737488351232 → (∀ x ∈ l1, (Lit.int .i64 x).wf = true) → (Lit.int .i64 a2).wf = true → ∃ k, plenumlaw21_SequencerWaits.f k l0 l1 a2 = some true
theorem plenumlaw21_SequencerWaits.walk (P : plenumlaw21_SequencerWaits.Pure) (a0 : Option Addr) (len0 cap0 : Nat) (z0 : List Int) (a1 : Option Addr) (len1 cap1 : Nat) (z1 : List Int) (a2 : Int) (w : World) (w0 : (a0 = none ∧ len0 = 0 ∧ cap0 = 0 ∧ z0 = []) ∨ ∃ x, a0 = some x ∧ len0 ≤ cap0 ∧ cap0 ≤ maxLen ∧ z0.length = cap0 ∧ (∀ i, i < z0.length → w.cell? (x.add i) = some (.int .i64 (z0.getD i 0))) ∧ ∀ n ∈ z0, (Lit.int .i64 n).wf = true) (y0 : len0 * 8 ≤ 140737488351232) (w1 : (a1 = none ∧ len1 = 0 ∧ cap1 = 0 ∧ z1 = []) ∨ ∃ x, a1 = some x ∧ len1 ≤ cap1 ∧ cap1 ≤ maxLen ∧ z1.length = cap1 ∧ (∀ i, i < z1.length → w.cell? (x.add i) = some (.int .i64 (z1.getD i 0))) ∧ ∀ n ∈ z1, (Lit.int .i64 n).wf = true) (y1 : len1 * 8 ≤ 140737488351232) (w2 : (Lit.int .i64 a2).wf = true) (hG : GW w) :
  Calls Tryd.prog 8 #[.slice a0 len0 cap0, .slice a1 len1 cap1, .int .i64 a2] w fun e w' => e = .returned (.bool true) ∧ Below w.heap.size w w' := by
 obtain ⟨l0, rfl, hr0, hm0, hw0, hc0⟩ := ReadsInt.ofRowC w0
 obtain ⟨l1, rfl, hr1, hm1, hw1, hc1⟩ := ReadsInt.ofRowC w1
 obtain ⟨k, h⟩ := P l0 l1 a2 hm0 y0 hw0 hm1 y1 hw1 w2
 refine (plenumlaw21_SequencerWaits.calls k _ _ l0 _ _ l1 a2 true w (Kd.C_of_reads (d := (0 : Int)) (h1 := fun _ => rfl) hr0) hc0 (Kd.C_of_reads (d := (0 : Int)) (h1 := fun _ => rfl) hr1) hc1 hG h).mono ?_
 rintro e w' ⟨rfl, hd⟩
 exact ⟨rfl, hd⟩

end Go.Proofs.YtcpncmjjbfbdhaaDoor.R
