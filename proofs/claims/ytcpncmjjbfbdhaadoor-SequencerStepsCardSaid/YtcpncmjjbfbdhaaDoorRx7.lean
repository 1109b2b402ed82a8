-- Written by this claim's own program out of the translation; not trusted: Lean checks it.
import Derived.Test.YtcpncmjjbfbdhaaDoorRx0
import Derived.Test.YtcpncmjjbfbdhaaDoorRx5
import Derived.Test.YtcpncmjjbfbdhaaDoorRx6
namespace Go.Proofs.YtcpncmjjbfbdhaaDoor.R
open Go.RowKit Go.Proofs.YtcpncmjjbfbdhaaDoorW.PrintWords Go.Proofs.YtcpncmjjbfbdhaaDoorW.PrintLast Go.Proofs.YtcpncmjjbfbdhaaDoorW.PrintMore
attribute [local go_sem] max2_int min2_int max_two min_two max_three min_three max_four min_four   -- for this text's walks alone
set_option linter.unusedVariables false
set_option linter.unusedSimpArgs false

/-! ### sequencer_Step: function 11 -/
mutual
def sequencer_Step.j0 : Nat → ByteArray → List Int → List Int → List (S27) → Int → List Int → Option (List Int × Int × Int × Int)
 | 0, _, _, _, _, _, _ => none
 | k + 1, x0, x1, x2, x3, x4, x14 => (sequencer_seconds.f x4).bind fun t249 => (if t249 = true then (sequencer_Step.j1 k x0 x1 x2 x3 x4 x14 ((x3.length : Int) != (x14.length : Int))) else (sequencer_Step.j1 k x0 x1 x2 x3 x4 x14 true))
def sequencer_Step.j1 : Nat → ByteArray → List Int → List Int → List (S27) → Int → List Int → Bool → Option (List Int × Int × Int × Int)
 | 0, _, _, _, _, _, _, _ => none
 | k + 1, x0, x1, x2, x3, x4, x14, x38 => if x38 = true then (some (([] : List Int), 0, 0, 1)) else (sequencer_Step.l0 k x0 x1 x2 x3 x4 x14 x3 (x3.length : Int) 0)
def sequencer_Step.l0 : Nat → ByteArray → List Int → List Int → List (S27) → Int → List Int → List (S27) → Int → Int → Option (List Int × Int × Int × Int)
 | 0, _, _, _, _, _, _, _, _, _ => none
 | k + 1, x0, x1, x2, x3, x4, x14, x40, x41, x42 => if x42 < x41 then (if 0 ≤ x42 then (if x42 < (x40.length : Int) then (if x42 < (x14.length : Int) then ((sequencer_fits.f ((rd_T27 x40 x42).f0) ((rd_T27 x40 x42).f1) (rd x14 x42)).bind fun t253 => (if t253 = true then (sequencer_Step.l0 k x0 x1 x2 x3 x4 x14 x40 x41 (wrap64 (x42 + 1))) else (some (([] : List Int), 0, 0, 11)))) else (none)) else (none)) else (none)) else ((sequencer_possible.f k x0 x1 x2).bind fun t254 => (if t254 = true then (if x0.toList = ([115, 116, 97, 103, 101] : List UInt8) then (if 0 < (x3.length : Int) then ((sequencer_stage.f k x1 x2 ((rd_T27 x3 0).f1) x4).bind fun t256 => (if 0 < (t256.length : Int) then (some (t256, 3, wrap64 ((rd t256 0) + 1), 0)) else (none))) else (none)) else (if 0 < (x3.length : Int) then (if 1 < (x3.length : Int) then ((sequencer_steps.f x1 x2 (((rd_T27 x3 0).f1) == 1) (((rd_T27 x3 1).f1) == 1) x4).bind fun t262 => (if 0 < (t262.length : Int) then (some (t262, 3, wrap64 ((rd t262 0) + 1), 0)) else (none))) else (none)) else (none))) else (some (([] : List Int), 0, 0, 8))))
end
def sequencer_Step.f (k : Nat) (a0 : ByteArray) (l1 : List Int) (l2 : List Int) (l3 : List (S27)) (a4 : Int) : Option (List Int × Int × Int × Int) := (sequencer_Check.f k a0 l1).bind fun t242 => (if t242 = 0 then (if a0.toList = ([115, 116, 97, 103, 101] : List UInt8) then (sequencer_Step.j0 k a0 l1 l2 l3 a4 (([1] : List Int))) else (sequencer_Step.j0 k a0 l1 l2 l3 a4 (([2, 2] : List Int)))) else (some (([] : List Int), 0, 0, t242)))
theorem sequencer_Step.mono_l : ∀ k, (∀ y0 y1 y2 y3 y4 y5, LeO (sequencer_Step.j0 k y0 y1 y2 y3 y4 y5) (sequencer_Step.j0 (k + 1) y0 y1 y2 y3 y4 y5)) ∧ (∀ y0 y1 y2 y3 y4 y5 y6, LeO (sequencer_Step.j1 k y0 y1 y2 y3 y4 y5 y6) (sequencer_Step.j1 (k + 1) y0 y1 y2 y3 y4 y5 y6)) ∧ (∀ y0 y1 y2 y3 y4 y5 y6 y7 y8, LeO (sequencer_Step.l0 k y0 y1 y2 y3 y4 y5 y6 y7 y8) (sequencer_Step.l0 (k + 1) y0 y1 y2 y3 y4 y5 y6 y7 y8))
 | 0 => ⟨fun _ _ _ _ _ _ r h => by simp [sequencer_Step.j0] at h, fun _ _ _ _ _ _ _ r h => by simp [sequencer_Step.j1] at h, fun _ _ _ _ _ _ _ _ _ r h => by simp [sequencer_Step.l0] at h⟩
 | k + 1 => by
  obtain ⟨ih0, ih1, ih2⟩ := sequencer_Step.mono_l k
  refine ⟨?_, ?_, ?_⟩
  ·
   intro y0 y1 y2 y3 y4 y5
   unfold sequencer_Step.j0
   repeat' first
   | (with_reducible exact ih0 _ _ _ _ _ _)
   | (with_reducible exact ih1 _ _ _ _ _ _ _)
   | (with_reducible exact ih2 _ _ _ _ _ _ _ _ _)
   | (with_reducible exact sequencer_Check.mono _ _ _)
   | (with_reducible exact sequencer_possible.mono _ _ _ _)
   | (with_reducible exact sequencer_stage.mono _ _ _ _ _)
   | (with_reducible exact LeO.refl _)
   | (with_reducible exact LeO.none _)
   | (with_reducible refine LeO.ite ?_ ?_)
   | (with_reducible refine LeO.bind ?_ (fun _ => ?_))
   | exact ih0 _ _ _ _ _ _
   | exact ih1 _ _ _ _ _ _ _
   | exact ih2 _ _ _ _ _ _ _ _ _
   | exact sequencer_Check.mono _ _ _
   | exact sequencer_possible.mono _ _ _ _
   | exact sequencer_stage.mono _ _ _ _ _
   | exact LeO.none _
   | refine LeO.ite ?_ ?_
   | refine LeO.bind ?_ (fun _ => ?_)
  ·
   intro y0 y1 y2 y3 y4 y5 y6
   unfold sequencer_Step.j1
   repeat' first
   | (with_reducible exact ih0 _ _ _ _ _ _)
   | (with_reducible exact ih1 _ _ _ _ _ _ _)
   | (with_reducible exact ih2 _ _ _ _ _ _ _ _ _)
   | (with_reducible exact sequencer_Check.mono _ _ _)
   | (with_reducible exact sequencer_possible.mono _ _ _ _)
   | (with_reducible exact sequencer_stage.mono _ _ _ _ _)
   | (with_reducible exact LeO.refl _)
   | (with_reducible exact LeO.none _)
   | (with_reducible refine LeO.ite ?_ ?_)
   | (with_reducible refine LeO.bind ?_ (fun _ => ?_))
   | exact ih0 _ _ _ _ _ _
   | exact ih1 _ _ _ _ _ _ _
   | exact ih2 _ _ _ _ _ _ _ _ _
   | exact sequencer_Check.mono _ _ _
   | exact sequencer_possible.mono _ _ _ _
   | exact sequencer_stage.mono _ _ _ _ _
   | exact LeO.none _
   | refine LeO.ite ?_ ?_
   | refine LeO.bind ?_ (fun _ => ?_)
  ·
   intro y0 y1 y2 y3 y4 y5 y6 y7 y8
   unfold sequencer_Step.l0
   repeat' first
   | (with_reducible exact ih0 _ _ _ _ _ _)
   | (with_reducible exact ih1 _ _ _ _ _ _ _)
   | (with_reducible exact ih2 _ _ _ _ _ _ _ _ _)
   | (with_reducible exact sequencer_Check.mono _ _ _)
   | (with_reducible exact sequencer_possible.mono _ _ _ _)
   | (with_reducible exact sequencer_stage.mono _ _ _ _ _)
   | (with_reducible exact LeO.refl _)
   | (with_reducible exact LeO.none _)
   | (with_reducible refine LeO.ite ?_ ?_)
   | (with_reducible refine LeO.bind ?_ (fun _ => ?_))
   | exact ih0 _ _ _ _ _ _
   | exact ih1 _ _ _ _ _ _ _
   | exact ih2 _ _ _ _ _ _ _ _ _
   | exact sequencer_Check.mono _ _ _
   | exact sequencer_possible.mono _ _ _ _
   | exact sequencer_stage.mono _ _ _ _ _
   | exact LeO.none _
   | refine LeO.ite ?_ ?_
   | refine LeO.bind ?_ (fun _ => ?_)
theorem sequencer_Step.mono : ∀ a0 a1 a2 a3 a4 k, LeO (sequencer_Step.f k a0 a1 a2 a3 a4) (sequencer_Step.f (k + 1) a0 a1 a2 a3 a4) := by
 intro a0 a1 a2 a3 a4 k
 obtain ⟨ih0, ih1, ih2⟩ := sequencer_Step.mono_l k
 unfold sequencer_Step.f
 repeat' first
   | (with_reducible exact ih0 _ _ _ _ _ _)
   | (with_reducible exact ih1 _ _ _ _ _ _ _)
   | (with_reducible exact ih2 _ _ _ _ _ _ _ _ _)
   | (with_reducible exact sequencer_Check.mono _ _ _)
   | (with_reducible exact sequencer_possible.mono _ _ _ _)
   | (with_reducible exact sequencer_stage.mono _ _ _ _ _)
   | (with_reducible exact LeO.refl _)
   | (with_reducible exact LeO.none _)
   | (with_reducible refine LeO.ite ?_ ?_)
   | (with_reducible refine LeO.bind ?_ (fun _ => ?_))
   | exact ih0 _ _ _ _ _ _
   | exact ih1 _ _ _ _ _ _ _
   | exact ih2 _ _ _ _ _ _ _ _ _
   | exact sequencer_Check.mono _ _ _
   | exact sequencer_possible.mono _ _ _ _
   | exact sequencer_stage.mono _ _ _ _ _
   | exact LeO.none _
   | refine LeO.ite ?_ ?_
   | refine LeO.bind ?_ (fun _ => ?_)
def sequencer_Step.T20 : Bool × List (List Nat × List Nat) := (true, [([], []), ([], []), ([], []), ([2], [2]), ([3], [3]), ([4], [4]), ([5], [5]), ([], []), ([7], [7]), ([8], [8]), ([9], [9]), ([10], [10]), ([], []), ([0, 1, 6, 11, 12], [0, 1, 6, 11, 12]), ([13, 13, 0, 1, 2, 3, 4, 5, 6, 7, 8, 9, 10, 11, 12, 13], [13])])
def sequencer_Step.B20 : List Nat := [0, 0, 0, 4, 12, 28, 60, 0, 128, 384, 896, 1920, 0, 8191, 16383]
theorem sequencer_Step.tab20 : rtab .any (opsOf Tryd.f11 20) = sequencer_Step.T20 := by kernel_rfl
theorem sequencer_Step.bits20 : waitsOk sequencer_Step.T20.2 sequencer_Step.B20 = true := by kernel_rfl
def sequencer_Step.T21 : Bool × List (List Nat × List Nat) := (true, [([], []), ([], []), ([1], [1]), ([2], [2]), ([3], [3]), ([4], [4]), ([0, 0], [0]), ([5, 6, 0, 1, 2, 3, 4, 5, 6], [5]), ([7, 0, 1, 2, 3, 4, 5, 6, 7], [])])
def sequencer_Step.B21 : List Nat := [0, 0, 2, 6, 14, 30, 1, 127, 255]
theorem sequencer_Step.tab21 : rtab .any (opsOf Tryd.f11 21) = sequencer_Step.T21 := by kernel_rfl
theorem sequencer_Step.bits21 : waitsOk sequencer_Step.T21.2 sequencer_Step.B21 = true := by kernel_rfl
set_option maxHeartbeats 8000000 in
set_option maxRecDepth 100000 in
theorem sequencer_Step.calls (k : Nat) (a0 : ByteArray) (A1 : Option Addr) (c1 : Nat) (l1 : List Int) (A2 : Option Addr) (c2 : Nat) (l2 : List Int) (A3 : Option Addr) (c3 : Nat) (l3 : List (S27)) (a4 : Int) (r1 : List Int) (r2 : Int) (r3 : Int) (r4 : Int) (w : World) (hr1 : Kd.C (Kd.int .i64) w A1 l1.length l1) (hc1 : l1.length ≤ c1) (hr2 : Kd.C (Kd.int .i64) w A2 l2.length l2) (hc2 : l2.length ≤ c2) (hr3 : Kd.C k27 w A3 l3.length l3) (hc3 : l3.length ≤ c3) (hG : GW w) (h : sequencer_Step.f k a0 l1 l2 l3 a4 = some (r1, r2, r3, r4)) :
  Calls Tryd.prog 11 #[.string a0, .slice A1 l1.length c1, .slice A2 l2.length c2, .slice A3 l3.length c3, .int .i64 a4] w fun e w' => ∃ v0_ : Value, e = .returned (.tuple #[v0_, .agg #[.int .i64 r2, .int .i64 r3], .int .i64 r4]) ∧ Kd.R (Kd.int .i64) 2 w' w.heap.size (fun _ => True) v0_ r1 ∧ Below w.heap.size w w' := by
 have hu27 := Tryd.underlying27
 have HG := Aside0.mk hG
 clear hG
 have HR1 := Aside0.mk hr1
 have HC1 := Aside0.mk hc1
 clear hr1 hc1
 have HR2 := Aside0.mk hr2
 have HC2 := Aside0.mk hc2
 clear hr2 hc2
 have HR3 := Aside0.mk hr3
 have HC3 := Aside0.mk hc3
 clear hr3 hc3
 have HB := Aside0.mk (Below.refl w.heap.size w)
 have H : ((sequencer_Check.f k a0 l1).bind fun t242 => (if t242 = 0 then (if a0.toList = ([115, 116, 97, 103, 101] : List UInt8) then (sequencer_Step.j0 k a0 l1 l2 l3 a4 (([1] : List Int))) else (sequencer_Step.j0 k a0 l1 l2 l3 a4 (([2, 2] : List Int)))) else (some (([] : List Int), 0, 0, t242)))) = some (r1, r2, r3, r4) := h
 clear h
 replace H := Option.bind_eq_some_iff.mp H
 obtain ⟨t242, A60, H⟩ := H
 replace H : (if t242 = 0 then (if a0.toList = ([115, 116, 97, 103, 101] : List UInt8) then (sequencer_Step.j0 k a0 l1 l2 l3 a4 (([1] : List Int))) else (sequencer_Step.j0 k a0 l1 l2 l3 a4 (([2, 2] : List Int)))) else (some (([] : List Int), 0, 0, t242))) = some (r1, r2, r3, r4) := H
 have A6 := Aside0.mk A60
 clear A60
 by_cases c7 : t242 = 0
 ·
  rw [if_pos c7] at H
  have c7b0 : (t242 == 0) = true := beq_iff_eq.mpr c7
  have c7b1 : (t242 != 0) = false := bne_eq_false_iff_eq.mpr c7
  clear c7
  obtain ⟨y243, hy243⟩ : ∃ y_ : List Int, y_ = (([2, 2] : List Int)) := ⟨_, rfl⟩
  replace H : (if a0.toList = ([115, 116, 97, 103, 101] : List UInt8) then (sequencer_Step.j0 k a0 l1 l2 l3 a4 (([1] : List Int))) else (sequencer_Step.j0 k a0 l1 l2 l3 a4 y243)) = some (r1, r2, r3, r4) := by first | (rw [hy243]; with_reducible exact H) | (have H2_ := (Option.bind_some _ _).symm.trans H; rw [hy243]; with_reducible exact H2_) | (have H2_ := (Option.bind_some _ _).symm.trans H; with_reducible exact H2_) | with_reducible exact H | (rw [hy243]; exact H) | exact H
  have Ny243 := Aside0.mk hy243
  clear hy243
  have HC8 := Aside0.mk H
  clear H
  go_enter Tryd.func11, Tryd.ntmps11
  go_upto_if 27 with (first | ((with_reducible refine gate_dst (N := 11) rfl ?_); (try (refine gate_guard (by rfl) ?_; dsimp only)); refine box_event ?hg (N := 11) ?hd (cs := #[.int .i64 0, .int .i64 0]) (t := 27) ?hr ?_; (case hd => rfl); (case hg => rfl); (case hr => first | (go_simp; done) | (go_simp; rfl)); intro gb241 hg w9 hbox hb; have n0_ := Aside0.mk (below_step bl hb); have n1_ := Aside0.mk (hbox); have n2_ := Aside0.mk ((by rw [hg]; exact (below_size bl) : w.heap.size ≤ gb241)); have n3_ := Aside0.mk ((by rw [hg]; exact (below_size bl) : w.heap.size ≤ gb241)); clear HB; have HB := n0_; have BK241 := n1_; have GW241 := n2_; have GE241 := n3_; clear n0_ n1_ n2_ n3_; clear hb hbox hg) | ((with_reducible refine gate_callee (f := 14) rfl ?_); refine goesL_ (some 20) rfl rfl Tryd.func14 (by kernel_rfl) rfl #[.string a0, .slice A1 l1.length c1] rfl aeq ?_; (with_reducible refine (sequencer_Check.calls k a0 _ _ l1 t242 _ ?side1 ?side2 ?side3 A6.out).mono ?_); (case side1 => repeat (first | exact (Kd.C_below HR1.out HB.out) | (with_reducible refine Kd.C_alloc ?_ _) | (with_reducible refine Kd.C_drewN ?_ _) | (with_reducible refine Kd.C_drew ?_))); (case side2 => exact HC1.out); (case side3 => exact GW.below HG.out (by repeat (first | (with_reducible first | exact HB.out | apply below_alloc | apply pw_below_drewN | apply below_drew1 | refine below_set ?_ GE241.out) | exact HB.out))); rintro e w10 ⟨rfl, hb⟩; refine ⟨_, rfl, ?_⟩; have n0_ := Aside0.mk (blk_below (g := gb241) (o := .cells #[.int .i64 0, .int .i64 0] 27 (0, 0)) (by (with_reducible repeat (first | refine blk_drewN ?_ _ | refine blk_drew ?_ | refine blk_alloc ?_ _)); exact BK241.out) hb); have n1_ := Aside0.mk (below_step (by repeat (first | (with_reducible first | exact HB.out | apply below_alloc | apply pw_below_drewN | apply below_drew1 | refine below_set ?_ GE241.out) | exact HB.out)) hb); clear BK241; clear HB; have BK241 := n0_; have HB := n1_; clear n0_ n1_; (try clear hb); (try clear hb2); (try clear hk); (try clear hi)) | ((with_reducible refine gate_dst (N := 25) rfl ?_); (try (refine gate_guard (by rfl) ?_; dsimp only)); refine Kd.R_lit (Kd.int .i64) _ 3 ?hg (N := 25) ?hd (xs := ([2, 2] : List Int)) (inner := [.int .i64 2, .int .i64 2]) (ok := fun _ => True) (okp := fun _ => True) ?hr ?hp (fun _ hk => hk) trivial (Below.refl _ _) (Nat.le_refl _) (by simp) ?_; (case hd => rfl); (case hg => rfl); (case hr => first | (go_simp; done) | (go_simp; rfl)); (case hp => exact (Reps.one (show Kd.M (Kd.int .i64) _ _ _ 2 [.int .i64 2] from rfl) (Reps.one (show Kd.M (Kd.int .i64) _ _ _ 2 [.int .i64 2] from rfl) (Reps.none _ _)))); intro v244 w11 ho12 hb hg_ hnew_; clear hg_ hnew_; (first | rw [← Ny243.out] at ho12 | (simp only [Int.reduceToNat] at ho12; rw [← Ny243.out] at ho12)); have n0_ := Aside0.mk (Kd.R_lower ho12 (below_size (by repeat (first | (with_reducible first | exact HB.out | apply below_alloc | apply pw_below_drewN | apply below_drew1 | refine below_set ?_ GE241.out) | exact HB.out)))); have n1_ := Aside0.mk (blk_below (g := gb241) (o := .cells #[.int .i64 0, .int .i64 0] 27 (0, 0)) (by (with_reducible repeat (first | refine blk_drewN ?_ _ | refine blk_drew ?_ | refine blk_alloc ?_ _)); exact BK241.out) hb); have n2_ := Aside0.mk (below_step (by repeat (first | (with_reducible first | exact HB.out | apply below_alloc | apply pw_below_drewN | apply below_drew1 | refine below_set ?_ GE241.out) | exact HB.out)) hb); clear BK241; clear HB; have HO245 := n0_; have BK241 := n1_; have HB := n2_; clear n0_ n1_ n2_; clear hb ho12))
  (try simp only [Act.put, List.setIfInBounds_toArray, List.set_cons_zero, List.set_cons_succ])
  go_cut [14] (fun v14 wc => ∃ (kq : Nat) (x14_7 : List Int), Aside0 (sequencer_Step.j0 kq a0 l1 l2 l3 a4 x14_7 = some (r1, r2, r3, r4)) ∧ Aside0 (kq ≤ k) ∧ Aside0 (Kd.R (Kd.int .i64) 3 wc w.heap.size (fun _ => True) v14 x14_7) ∧ Aside0 (wc.heap[gb241]? = some (.cells #[.int .i64 0, .int .i64 0] 27 (0, 0))) ∧ Aside0 (Below w.heap.size w wc))
  case first =>
   have H := HC8.out
   clear HC8
   by_cases c13 : a0.toList = ([115, 116, 97, 103, 101] : List UInt8)
   ·
    rw [if_pos c13] at H
    have c13b0 : (a0.toList == ([115, 116, 97, 103, 101] : List UInt8)) = true := beq_iff_eq.mpr c13
    have c13b1 : (a0.toList != ([115, 116, 97, 103, 101] : List UInt8)) = false := bne_eq_false_iff_eq.mpr c13
    clear c13
    (first | rw [c13b0] | (simp only [i64_w, i32_w]; rw [c13b0]) | skip)
    obtain ⟨y246, hy246⟩ : ∃ y_ : List Int, y_ = (([1] : List Int)) := ⟨_, rfl⟩
    replace H : (sequencer_Step.j0 k a0 l1 l2 l3 a4 y246) = some (r1, r2, r3, r4) := by first | (rw [hy246]; with_reducible exact H) | (have H2_ := (Option.bind_some _ _).symm.trans H; rw [hy246]; with_reducible exact H2_) | (have H2_ := (Option.bind_some _ _).symm.trans H; with_reducible exact H2_) | with_reducible exact H | (rw [hy246]; exact H) | exact H
    have Ny246 := Aside0.mk hy246
    clear hy246
    have H' := Aside0.mk H
    clear H
    go_wp2_with (first | ((with_reducible refine gate_dst (N := 28) rfl ?_); (try (refine gate_guard (by rfl) ?_; dsimp only)); refine Kd.R_lit (Kd.int .i64) _ 3 ?hg (N := 28) ?hd (xs := ([1] : List Int)) (inner := [.int .i64 1]) (ok := fun _ => True) (okp := fun _ => True) ?hr ?hp (fun _ hk => hk) trivial (Below.refl _ _) (Nat.le_refl _) (by simp) ?_; (case hd => rfl); (case hg => rfl); (case hr => first | (go_simp; done) | (go_simp; rfl)); (case hp => exact (Reps.one (show Kd.M (Kd.int .i64) _ _ _ 1 [.int .i64 1] from rfl) (Reps.none _ _))); intro v247 w14 ho15 hb hg_ hnew_; clear hg_ hnew_; (first | rw [← Ny246.out] at ho15 | (simp only [Int.reduceToNat] at ho15; rw [← Ny246.out] at ho15)); have n0_ := Aside0.mk (Kd.R_elder' (by (with_reducible repeat (first | apply Kd.R_alloc | apply Kd.R_drewN | apply Kd.R_drew)); exact HO245.out) (Kd.R_base ho15) hb); have n1_ := Aside0.mk (Kd.R_lower (Kd.R_new' ho15 (Kd.R_lt (by (with_reducible repeat (first | apply Kd.R_alloc | apply Kd.R_drewN | apply Kd.R_drew)); exact HO245.out))) (below_size (by repeat (first | (with_reducible first | exact HB.out | apply below_alloc | apply pw_below_drewN | apply below_drew1 | refine below_set ?_ GE241.out) | exact HB.out)))); have n2_ := Aside0.mk (blk_below (g := gb241) (o := .cells #[.int .i64 0, .int .i64 0] 27 (0, 0)) (by (with_reducible repeat (first | refine blk_drewN ?_ _ | refine blk_drew ?_ | refine blk_alloc ?_ _)); exact BK241.out) hb); have n3_ := Aside0.mk (below_step (by repeat (first | (with_reducible first | exact HB.out | apply below_alloc | apply pw_below_drewN | apply below_drew1 | refine below_set ?_ GE241.out) | exact HB.out)) hb); clear HO245; clear BK241; clear HB; have HO245 := n0_; have HO248 := n1_; have BK241 := n2_; have HB := n3_; clear n0_ n1_ n2_ n3_; clear hb ho15))
    go_meet
    case rel => exact ⟨_, (y246), H', ⟨by first | omega | exact Nat.le_refl _⟩, ⟨by (with_reducible repeat (first | apply Kd.R_alloc | apply Kd.R_drewN | apply Kd.R_drew)); exact Kd.R_mono HO248.out (fun _ hk => trivial)⟩, ⟨by (with_reducible repeat (first | refine blk_drewN ?_ _ | refine blk_drew ?_ | refine blk_alloc ?_ _)); exact BK241.out⟩, ⟨by repeat (first | (with_reducible first | exact HB.out | apply below_alloc | apply pw_below_drewN | apply below_drew1 | refine below_set ?_ GE241.out) | exact HB.out)⟩⟩
   ·
    rw [if_neg c13] at H
    have c13b0 : (a0.toList == ([115, 116, 97, 103, 101] : List UInt8)) = false := beq_eq_false_iff_ne.mpr c13
    have c13b1 : (a0.toList != ([115, 116, 97, 103, 101] : List UInt8)) = true := bne_iff_ne.mpr c13
    (first | rw [c13b0] | (simp only [i64_w, i32_w]; rw [c13b0]) | skip)
    have H' := Aside0.mk H
    clear H
    go_wp2
    go_meet
    case rel => exact ⟨_, (y243), H', ⟨by first | omega | exact Nat.le_refl _⟩, ⟨by (with_reducible repeat (first | apply Kd.R_alloc | apply Kd.R_drewN | apply Kd.R_drew)); exact HO245.out⟩, ⟨by (with_reducible repeat (first | refine blk_drewN ?_ _ | refine blk_drew ?_ | refine blk_alloc ?_ _)); exact BK241.out⟩, ⟨by repeat (first | (with_reducible first | exact HB.out | apply below_alloc | apply pw_below_drewN | apply below_drew1 | refine below_set ?_ GE241.out) | exact HB.out)⟩⟩
  case rest =>
   clear HC8
   try clear c1
   try clear c2
   try clear p2
   try clear c3
   try clear c7
   try clear c7b0
   try clear c7b1
   try clear c11
   try clear c13
   try clear c13b0
   try clear c13b1
   try clear c14
   obtain ⟨kq, x14_7, HA, HJ7, HO_14, BK241, HB⟩ := hcut
   cases kq with
   | zero => exact absurd HA.out (by simp [sequencer_Step.j0])
   | succ kj7 =>
    have H := HA.out
    clear HA
    simp only [sequencer_Step.j0] at H
    have HC16 := Aside0.mk H
    clear H
    go_upto_region 7 with (fail)
    go_cut [38] (fun v38 wc => ∃ (kq : Nat) (x38_15 : Bool), v38 = .bool x38_15 ∧ Aside0 (sequencer_Step.j1 kq a0 l1 l2 l3 a4 x14_7 x38_15 = some (r1, r2, r3, r4)) ∧ Aside0 (kq ≤ kj7) ∧ Aside0 (Kd.R (Kd.int .i64) 3 wc w.heap.size (fun _ => True) u14 x14_7) ∧ Aside0 (wc.heap[gb241]? = some (.cells #[.int .i64 0, .int .i64 0] 27 (0, 0))) ∧ Aside0 (Below w.heap.size w wc))
    case first =>
     have H := HC16.out
     clear HC16
     replace H := Option.bind_eq_some_iff.mp H
     obtain ⟨t249, A170, H⟩ := H
     replace H : (if t249 = true then (sequencer_Step.j1 kj7 a0 l1 l2 l3 a4 x14_7 ((l3.length : Int) != (x14_7.length : Int))) else (sequencer_Step.j1 kj7 a0 l1 l2 l3 a4 x14_7 true)) = some (r1, r2, r3, r4) := H
     have A17 := Aside0.mk A170
     clear A170
     by_cases c18 : t249 = true
     ·
      subst c18
      rw [if_pos rfl] at H
      have H' := Aside0.mk H
      clear H
      go_wp2_with (first | ((with_reducible refine gate_callee (f := 23) rfl ?_); refine goesL_ (some 30) rfl rfl Tryd.func23 (by kernel_rfl) rfl #[.int .i64 a4] rfl aeq ?_; (with_reducible refine (sequencer_seconds.calls a4 true _ A17.out).mono ?_); rintro e w' ⟨rfl, ⟨nd, rfl⟩⟩; refine ⟨_, rfl, ?_⟩; obtain ⟨Ao19, co19, eo19⟩ := Kd.R_slice HO_14.out; subst eo19))
      go_meet
      case rel => exact ⟨_, (((l3.length : Int) != (x14_7.length : Int))), (by first | rfl | (simp; done) | (simp [*]; done)), H', ⟨by have := HJ7.out; first | omega | exact Nat.le_refl _⟩, ⟨by (with_reducible repeat (first | apply Kd.R_alloc | apply Kd.R_drewN | apply Kd.R_drew)); exact HO_14.out⟩, ⟨by (with_reducible repeat (first | refine blk_drewN ?_ _ | refine blk_drew ?_ | refine blk_alloc ?_ _)); exact BK241.out⟩, ⟨by repeat (first | (with_reducible first | exact HB.out | apply below_alloc | apply pw_below_drewN | apply below_drew1 | refine below_set ?_ GE241.out) | exact HB.out)⟩⟩
     ·
      replace c18 := Bool.eq_false_iff.mpr c18
      subst c18
      rw [if_neg (show ¬ (false = true) by decide)] at H
      have H' := Aside0.mk H
      clear H
      go_wp2_with (first | ((with_reducible refine gate_callee (f := 23) rfl ?_); refine goesL_ (some 30) rfl rfl Tryd.func23 (by kernel_rfl) rfl #[.int .i64 a4] rfl aeq ?_; (with_reducible refine (sequencer_seconds.calls a4 false _ A17.out).mono ?_); rintro e w' ⟨rfl, ⟨nd, rfl⟩⟩; refine ⟨_, rfl, ?_⟩))
      go_meet
      case rel => exact ⟨_, (true), (by first | rfl | (simp; done) | (simp [*]; done)), H', ⟨by have := HJ7.out; first | omega | exact Nat.le_refl _⟩, ⟨by (with_reducible repeat (first | apply Kd.R_alloc | apply Kd.R_drewN | apply Kd.R_drew)); exact HO_14.out⟩, ⟨by (with_reducible repeat (first | refine blk_drewN ?_ _ | refine blk_drew ?_ | refine blk_alloc ?_ _)); exact BK241.out⟩, ⟨by repeat (first | (with_reducible first | exact HB.out | apply below_alloc | apply pw_below_drewN | apply below_drew1 | refine below_set ?_ GE241.out) | exact HB.out)⟩⟩
    case rest =>
     clear HC16
     try clear c1
     try clear c2
     try clear p2
     try clear c3
     try clear c7
     try clear c7b0
     try clear c7b1
     try clear c11
     try clear c13
     try clear c13b0
     try clear c13b1
     try clear c14
     try clear c18
     try clear p2
     obtain ⟨kq, x38_15, rfl, HA, HJ15, HO_14, BK241, HB⟩ := hcut
     cases kq with
     | zero => exact absurd HA.out (by simp [sequencer_Step.j1])
     | succ kj15 =>
      have H := HA.out
      clear HA
      simp only [sequencer_Step.j1] at H
      by_cases c20 : x38_15 = true
      ·
       subst c20
       rw [if_pos rfl] at H
       simp only [Option.some.injEq, Prod.mk.injEq] at H
       obtain ⟨rfl, rfl, rfl, rfl⟩ := H
       have hcz21_0 : wc.cell? ⟨gb241, 0, none⟩ = some (.int .i64 0) := (blk_cell BK241.out 0).trans rfl
       have hcz21_1 : wc.cell? ⟨gb241, 1, none⟩ = some (.int .i64 0) := (blk_cell BK241.out 1).trans rfl
       have hfz21_0 := blk_frozen BK241.out 0
       have hfz21_1 := blk_frozen BK241.out 1
       go_wp2
       refine bodyPost_ret (results_list (rs := [.tmp 10, .cell 11 27, .tmp 12]) rfl (by simp) (.tmp (.cell gb241 27 #[.int .i64 0, .int .i64 0] (0, 0) _ rfl (by (with_reducible repeat (first | refine blk_drewN ?_ _ | refine blk_drew ?_ | refine blk_alloc ?_ _)); refine blk_put (cs := #[.int .i64 0, .int .i64 0]) ?_ 1 _ rfl; (with_reducible repeat (first | refine blk_drewN ?_ _ | refine blk_drew ?_ | refine blk_alloc ?_ _)); refine blk_put (cs := #[.int .i64 0, .int .i64 0]) ?_ 0 _ rfl; (with_reducible repeat (first | refine blk_drewN ?_ _ | refine blk_drew ?_ | refine blk_alloc ?_ _)); exact BK241.out) Tryd.underlying27 rfl (by kernel_rfl) (.tmp .nil)))) rfl ?_
       exact ⟨_, by first | rfl | (simp [errW_none, errW_some] <;> rfl) | (simp [*, errW_none, errW_some] <;> rfl), by first | exact Kd.R_nil _ _ _ _ _ | exact Kd.N_nil _ _ _ _ _ | exact Kd.V_nil _ _ _ _ _ | exact Kd.Q_nil _ _ _ _ _ | exact Kd.S_nil _ _ _ _ _, by repeat (first | (with_reducible first | exact HB.out | apply below_alloc | apply pw_below_drewN | apply below_drew1 | refine below_set ?_ GE241.out) | exact HB.out)⟩
      ·
       replace c20 := Bool.eq_false_iff.mpr c20
       subst c20
       rw [if_neg (show ¬ (false = true) by decide)] at H
       have H' := Aside0.mk H
       clear H
       go_wp2
       go_loopg [42] kj15 (fun kq v42 w' => ∃ (x42_3 : Int) (x242000_3 : Int) (x242001_3 : Int), v42 = .int .i64 x42_3 ∧ Aside0 (sequencer_Step.l0 kq a0 l1 l2 l3 a4 x14_7 l3 (l3.length : Int) x42_3 = some (r1, r2, r3, r4)) ∧ Aside0 (kq ≤ kj15) ∧ Aside0 (Kd.R (Kd.int .i64) 3 w' w.heap.size (fun _ => True) u14 x14_7) ∧ Aside0 (w'.heap[gb241]? = some (.cells #[.int .i64 x242000_3, .int .i64 x242001_3] 27 (0, 0))) ∧ Aside0 (Below w.heap.size w w'))
       case atStart => exact ⟨(0), (0), (0), (by first | rfl | (simp; done) | (simp [*]; done)), H', ⟨Nat.le_refl _⟩, ⟨by (with_reducible repeat (first | apply Kd.R_alloc | apply Kd.R_drewN | apply Kd.R_drew)); exact HO_14.out⟩, ⟨by (with_reducible repeat (first | refine blk_drewN ?_ _ | refine blk_drew ?_ | refine blk_alloc ?_ _)); exact BK241.out⟩, ⟨by repeat (first | (with_reducible first | exact HB.out | apply below_alloc | apply pw_below_drewN | apply below_drew1 | refine below_set ?_ GE241.out) | exact HB.out)⟩⟩
       case round =>
        clear H'
        try clear c1
        try clear c2
        try clear p2
        try clear c3
        try clear c7
        try clear c7b0
        try clear c7b1
        try clear c11
        try clear c13
        try clear c13b0
        try clear c13b1
        try clear c14
        try clear c18
        try clear c20
        try clear hcz21_0
        try clear hcz21_1
        try clear hfz21_0
        try clear hfz21_1
        try clear p2
        obtain ⟨x42_3, x242000_3, x242001_3, rfl, HA, HK3, HO_14, BK241, HB⟩ := hrel
        cases gk with
        | zero => exact absurd HA.out (by simp [sequencer_Step.l0])
        | succ k3 =>
         have H := HA.out
         clear HA
         simp only [sequencer_Step.l0] at H
         by_cases c22 : x42_3 < (l3.length : Int)
         ·
          rw [if_pos c22] at H
          have c22b0 : decide (x42_3 < (l3.length : Int)) = true := decide_eq_true c22
          clear c22
          by_cases c23 : 0 ≤ x42_3
          ·
           rw [if_pos c23] at H
           have c23b0 : decide (0 ≤ x42_3) = true := decide_eq_true c23
           clear c23
           by_cases c24 : x42_3 < (l3.length : Int)
           ·
            rw [if_pos c24] at H
            have c24b0 : decide (x42_3 < (l3.length : Int)) = true := decide_eq_true c24
            clear c24
            by_cases c25 : x42_3 < (x14_7.length : Int)
            ·
             rw [if_pos c25] at H
             have c25b0 : decide (x42_3 < (x14_7.length : Int)) = true := decide_eq_true c25
             clear c25
             replace H := Option.bind_eq_some_iff.mp H
             obtain ⟨t253, A260, H⟩ := H
             replace H : (if t253 = true then (sequencer_Step.l0 k3 a0 l1 l2 l3 a4 x14_7 l3 (l3.length : Int) (wrap64 (x42_3 + 1))) else (some (([] : List Int), 0, 0, 11))) = some (r1, r2, r3, r4) := H
             have A26 := Aside0.mk A260
             clear A260
             by_cases c27 : t253 = true
             ·
              subst c27
              rw [if_pos rfl] at H
              have H' := Aside0.mk H
              clear H
              have p250 : 0 ≤ (x42_3 : Int) := ode
              have q250 : x42_3 < (l3.length : Int) := ode
              obtain ⟨ad250, e250, hx250_0, hx250_1⟩ := at_T27 HR3.out x42_3 p250 q250
              cases e250
              replace hx250_0 := (HB.out.cell (World.block_lt_of_cell? w _ hx250_0)).trans hx250_0
              replace hx250_1 := (HB.out.cell (World.block_lt_of_cell? w _ hx250_1)).trans hx250_1
              replace p250 := eq_true p250
              replace q250 := eq_true q250
              try go_wp2_with (first | ((with_reducible refine gate_dst (N := 16) rfl ?_); (try (refine gate_guard (by rfl) ?_; dsimp only)); refine box_event ?hg (N := 16) ?hd (cs := #[.int .i64 0, .int .i64 0]) (t := 27) ?hr ?_; (case hd => rfl); (case hg => rfl); (case hr => first | (go_simp; done) | (go_simp; rfl)); intro gb251 hg w28 hbox hb; have n0_ := Aside0.mk (Kd.R_below (by (with_reducible repeat (first | apply Kd.R_alloc | apply Kd.R_drewN | apply Kd.R_drew)); exact HO_14.out) hb); have n1_ := Aside0.mk (blk_below (g := gb241) (o := .cells #[.int .i64 x242000_3, .int .i64 x242001_3] 27 (0, 0)) (by (with_reducible repeat (first | refine blk_drewN ?_ _ | refine blk_drew ?_ | refine blk_alloc ?_ _)); exact BK241.out) hb); have n2_ := Aside0.mk (below_step (by repeat (first | (with_reducible first | exact HB.out | apply below_alloc | apply pw_below_drewN | apply below_drew1 | refine below_set ?_ GE241.out) | exact HB.out)) hb); have n3_ := Aside0.mk (hbox); have n4_ := Aside0.mk ((by rw [hg]; exact (below_size (by repeat (first | (with_reducible first | exact HB.out | apply below_alloc | apply pw_below_drewN | apply below_drew1 | refine below_set ?_ GE241.out) | exact HB.out))) : w.heap.size ≤ gb251)); have n5_ := Aside0.mk ((by rw [hg]; exact (below_size (by repeat (first | (with_reducible first | exact HB.out | apply below_alloc | apply pw_below_drewN | apply below_drew1 | refine below_set ?_ GE241.out) | exact HB.out))) : w.heap.size ≤ gb251)); have n6_ := Aside0.mk ((by rw [hg]; exact Nat.ne_of_lt (blk_lt (g := gb241) (o := .cells #[.int .i64 x242000_3, .int .i64 x242001_3] 27 (0, 0)) (by (with_reducible repeat (first | refine blk_drewN ?_ _ | refine blk_drew ?_ | refine blk_alloc ?_ _)); exact BK241.out)) : gb241 ≠ gb251)); have n7_ := Aside0.mk ((by rw [hg]; exact Nat.ne_of_gt (blk_lt (g := gb241) (o := .cells #[.int .i64 x242000_3, .int .i64 x242001_3] 27 (0, 0)) (by (with_reducible repeat (first | refine blk_drewN ?_ _ | refine blk_drew ?_ | refine blk_alloc ?_ _)); exact BK241.out)) : gb251 ≠ gb241)); clear HO_14; clear BK241; clear HB; have HO_14 := n0_; have BK241 := n1_; have HB := n2_; have BK251 := n3_; have GW251 := n4_; have GE251 := n5_; have NB241_251 := n6_; have NB251_241 := n7_; clear n0_ n1_ n2_ n3_ n4_ n5_ n6_ n7_; clear hb hbox hg; have hnb29 := NB251_241.out; have hnc29 := NB241_251.out; have hcz30_0 : w28.cell? ⟨gb251, 0, none⟩ = some (.int .i64 0) := (blk_cell BK251.out 0).trans rfl; have hcz30_1 : w28.cell? ⟨gb251, 1, none⟩ = some (.int .i64 0) := (blk_cell BK251.out 1).trans rfl; have hfz30_0 := blk_frozen BK251.out 0; have hfz30_1 := blk_frozen BK251.out 1))
              have n0_ : Aside0 (Kd.R (Kd.int .i64) 3 ((w28.setCell ⟨gb251, 0, none⟩ (.int .i64 ((rd_T27 l3 x42_3).f0))).setCell ⟨gb251, 1, none⟩ (.int .i64 ((rd_T27 l3 x42_3).f1))) w.heap.size (fun _ => True) u14 x14_7) := ⟨by (with_reducible repeat (first | apply Kd.R_alloc | apply Kd.R_drewN | apply Kd.R_drew)); exact Kd.R_mono (Kd.R_far (p := ⟨gb251, 1, none⟩) (Kd.R_far (p := ⟨gb251, 0, none⟩) (Kd.R_types HO_14.out BK251.out (by decide)) (fun _ hk => hk.2) (.int .i64 ((rd_T27 l3 x42_3).f0))) (fun _ hk => hk.2) (.int .i64 ((rd_T27 l3 x42_3).f1))) (fun _ hk => trivial)⟩
              have n1_ : Aside0 (((w28.setCell ⟨gb251, 0, none⟩ (.int .i64 ((rd_T27 l3 x42_3).f0))).setCell ⟨gb251, 1, none⟩ (.int .i64 ((rd_T27 l3 x42_3).f1))).heap[gb241]? = some (.cells #[.int .i64 x242000_3, .int .i64 x242001_3] 27 (0, 0))) := ⟨by (with_reducible repeat (first | refine blk_drewN ?_ _ | refine blk_drew ?_ | refine blk_alloc ?_ _)); refine blk_far ?_ NB241_251.out _; (with_reducible repeat (first | refine blk_drewN ?_ _ | refine blk_drew ?_ | refine blk_alloc ?_ _)); refine blk_far ?_ NB241_251.out _; (with_reducible repeat (first | refine blk_drewN ?_ _ | refine blk_drew ?_ | refine blk_alloc ?_ _)); exact BK241.out⟩
              have n2_ : Aside0 (((w28.setCell ⟨gb251, 0, none⟩ (.int .i64 ((rd_T27 l3 x42_3).f0))).setCell ⟨gb251, 1, none⟩ (.int .i64 ((rd_T27 l3 x42_3).f1))).heap[gb251]? = some (.cells #[.int .i64 ((rd_T27 l3 x42_3).f0), .int .i64 ((rd_T27 l3 x42_3).f1)] 27 (0, 0))) := ⟨by (with_reducible repeat (first | refine blk_drewN ?_ _ | refine blk_drew ?_ | refine blk_alloc ?_ _)); refine blk_put (cs := #[.int .i64 ((rd_T27 l3 x42_3).f0), .int .i64 0]) ?_ 1 _ rfl; (with_reducible repeat (first | refine blk_drewN ?_ _ | refine blk_drew ?_ | refine blk_alloc ?_ _)); refine blk_put (cs := #[.int .i64 0, .int .i64 0]) ?_ 0 _ rfl; (with_reducible repeat (first | refine blk_drewN ?_ _ | refine blk_drew ?_ | refine blk_alloc ?_ _)); exact BK251.out⟩
              have n3_ : Aside0 (Below w.heap.size w ((w28.setCell ⟨gb251, 0, none⟩ (.int .i64 ((rd_T27 l3 x42_3).f0))).setCell ⟨gb251, 1, none⟩ (.int .i64 ((rd_T27 l3 x42_3).f1)))) := ⟨by repeat (first | (with_reducible first | exact HB.out | apply below_alloc | apply pw_below_drewN | apply below_drew1 | refine below_set ?_ GE241.out | refine below_set ?_ GE251.out) | exact HB.out)⟩
              (try clear HO_14)
              (try clear BK241)
              (try clear BK251)
              (try clear HB)
              generalize ((w28.setCell ⟨gb251, 0, none⟩ (.int .i64 ((rd_T27 l3 x42_3).f0))).setCell ⟨gb251, 1, none⟩ (.int .i64 ((rd_T27 l3 x42_3).f1))) = w31 at n0_ n1_ n2_ n3_ ⊢
              have HO_14 := n0_
              have BK241 := n1_
              have BK251 := n2_
              have HB := n3_
              clear n0_ n1_ n2_ n3_
              have n0_ := Aside0.mk (Kd.R_drew HO_14.out)
              have n1_ := Aside0.mk (blk_drew BK241.out)
              have n2_ := Aside0.mk (blk_drew BK251.out)
              have n3_ := Aside0.mk (below_drew1 HB.out)
              clear HO_14
              clear BK241
              clear BK251
              clear HB
              have HO_14 := n0_
              have BK241 := n1_
              have BK251 := n2_
              have HB := n3_
              clear n0_ n1_ n2_ n3_
              obtain ⟨Ao33, co33, eo33⟩ := Kd.R_slice HO_14.out
              (first | subst eo33 | (injection eo33 with f1_ f2_ f3_; have f4_ := f1_.symm; have f5_ := f3_.symm; clear f1_ f2_ f3_; subst f4_; subst f5_))
              have p252 : 0 ≤ (x42_3 : Int) := ode
              have q252 : x42_3 < (x14_7.length : Int) := ode
              obtain ⟨ad252, e252, hx252_0⟩ := Kd.at_int (Kd.R_reads' HO_14.out).2.2 x42_3 p252 q252
              cases e252
              replace p252 := eq_true p252
              replace q252 := eq_true q252
              refine start_ (n := 7) (S := fun w' => w'.cell? ⟨gb251, 0, none⟩ = some (.int .i64 ((rd_T27 l3 x42_3).f0)) ∧ w'.cell? ⟨gb251, 1, none⟩ = some (.int .i64 ((rd_T27 l3 x42_3).f1)) ∧ w'.cell? (ad252.add (x42_3).toNat) = some (.int .i64 (rd x14_7 x42_3))) (ds := []) #[false, false, false, false, false, false, false] (by kernel_rfl) rfl rfl ⟨(blk_cell BK251.out 0).trans rfl, (blk_cell BK251.out 1).trans rfl, hx252_0⟩ (fun hHeld => ?_)
              generalize w31.drew = w32 at HO_14 BK241 BK251 HB hx252_0 hHeld ⊢
              refine pure_ (i := 1) (N := some 48) (v := ?_) (a' := ?_) #[false, true, false, false, false, false, false] rfl rfl (by kernel_rfl) (fun _ _ _ h => h) (Or.inl ⟨by rfl, ?_⟩) ?_ ?_
              rotate_left
              ·
               intro w'
               go_simp
               with_reducible rfl
              rotate_left
              ·
               simp only [Act.put, List.setIfInBounds_toArray, List.set_cons_zero, List.set_cons_succ, i64_w, i32_w]
               rfl
              refine pure_ (i := 2) (N := some 49) (v := ?_) (a' := ?_) #[false, true, true, false, false, false, false] rfl rfl (by kernel_rfl) (fun _ _ _ h => h) (Or.inl ⟨by rfl, ?_⟩) ?_ ?_
              rotate_left
              ·
               intro w'
               go_simp
               with_reducible rfl
              rotate_left
              ·
               simp only [Act.put, List.setIfInBounds_toArray, List.set_cons_zero, List.set_cons_succ, i64_w, i32_w]
               rfl
              refine pure_ (i := 3) (N := some 50) (v := ?_) (a' := ?_) #[false, true, true, true, false, false, false] rfl rfl (by kernel_rfl) (fun _ _ _ h => h) (Or.inl ⟨by rfl, ?_⟩) ?_ ?_
              rotate_left
              ·
               intro w'
               go_simp
               with_reducible rfl
              rotate_left
              ·
               simp only [Act.put, List.setIfInBounds_toArray, List.set_cons_zero, List.set_cons_succ, i64_w, i32_w]
               rfl
              refine take_ (i := 0) (N := some 47) (v := ?_) (a' := ?_) #[true, true, true, true, false, false, false] rfl rfl (by kernel_rfl) (fun _ _ _ h => h) (Or.inl ⟨by rfl, ?_⟩) hHeld ?_ ?_
              rotate_left
              ·
               rintro w' ⟨s0, s1, s2⟩
               go_simp
               with_reducible rfl
              rotate_left
              ·
               simp only [Act.put, List.setIfInBounds_toArray, List.set_cons_zero, List.set_cons_succ, i64_w, i32_w]
               rfl
              refine take_ (i := 4) (N := some 51) (v := ?_) (a' := ?_) #[true, true, true, true, true, false, false] rfl rfl (by kernel_rfl) (fun _ _ _ h => h) (Or.inl ⟨by rfl, ?_⟩) hHeld ?_ ?_
              rotate_left
              ·
               rintro w' ⟨s0, s1, s2⟩
               go_simp
               with_reducible rfl
              rotate_left
              ·
               simp only [Act.put, List.setIfInBounds_toArray, List.set_cons_zero, List.set_cons_succ, i64_w, i32_w]
               rfl
              refine one_ (i := 5) (N := some 52) #[true, true, true, true, true, true, false] rfl rfl (by kernel_rfl) (by decide) (fun K hK => ?_)
              refine goes_ Tryd.func24 (by kernel_rfl) rfl #[.agg #[.int .i64 ((rd_T27 l3 x42_3).f0), .int .i64 ((rd_T27 l3 x42_3).f1)], .int .i64 (rd x14_7 x42_3)] (by rfl) rfl rfl aeq ?_
              with_reducible refine (sequencer_fits.calls ((rd_T27 l3 x42_3).f0) ((rd_T27 l3 x42_3).f1) (rd x14_7 x42_3) true _ A26.out).mono ?_
              rintro e w34 ⟨rfl, hb⟩
              have HS2_ := (hb.cell (World.block_lt_of_cell? _ _ (hHeld.2.2))).trans (hHeld.2.2)
              refine ⟨_, rfl, ?_⟩
              have n0_ := Aside0.mk (Kd.R_below (by (with_reducible repeat (first | apply Kd.R_alloc | apply Kd.R_drewN | apply Kd.R_drew)); exact HO_14.out) hb)
              have n1_ := Aside0.mk (blk_below (g := gb241) (o := .cells #[.int .i64 x242000_3, .int .i64 x242001_3] 27 (0, 0)) (by (with_reducible repeat (first | refine blk_drewN ?_ _ | refine blk_drew ?_ | refine blk_alloc ?_ _)); exact BK241.out) hb)
              have n2_ := Aside0.mk (blk_below (g := gb251) (o := .cells #[.int .i64 ((rd_T27 l3 x42_3).f0), .int .i64 ((rd_T27 l3 x42_3).f1)] 27 (0, 0)) (by (with_reducible repeat (first | refine blk_drewN ?_ _ | refine blk_drew ?_ | refine blk_alloc ?_ _)); exact BK251.out) hb)
              have n3_ := Aside0.mk (below_step (by repeat (first | (with_reducible first | exact HB.out | apply below_alloc | apply pw_below_drewN | apply below_drew1 | refine below_set ?_ GE241.out | refine below_set ?_ GE251.out) | exact HB.out)) hb)
              clear HO_14
              clear BK241
              clear BK251
              clear HB
              have HO_14 := n0_
              have BK241 := n1_
              have BK251 := n2_
              have HB := n3_
              clear n0_ n1_ n2_ n3_
              (try clear hb)
              (try clear hb2)
              (try clear hk)
              (try clear hi)
              refine hK.out _ _ ⟨(blk_cell BK251.out 0).trans rfl, (blk_cell BK251.out 1).trans rfl, HS2_⟩ (fun hHeld => ?_)
              clear hK K
              refine norm_ (a' := ?_) ?_ ?_
              rotate_left
              ·
               show Act.put _ (some 52) _ = _
               simp only [Act.put, List.setIfInBounds_toArray, List.set_cons_zero, List.set_cons_succ, i64_w, i32_w]
               rfl
              refine pure_ (i := 6) (N := some 53) (v := ?_) (a' := ?_) #[true, true, true, true, true, true, true] rfl rfl (by kernel_rfl) (fun _ _ _ h => h) (Or.inl ⟨by rfl, ?_⟩) ?_ ?_
              rotate_left
              ·
               intro w'
               go_simp
               with_reducible rfl
              rotate_left
              ·
               simp only [Act.put, List.setIfInBounds_toArray, List.set_cons_zero, List.set_cons_succ, i64_w, i32_w]
               rfl
              refine done_ (by kernel_rfl) ?_
              try go_wp2
              go_roundg k3
              case measure => have := HJ7.out; have := HJ15.out; have := HK3.out; omega
              case rel => exact ⟨(wrap64 (x42_3 + 1)), (x242000_3), (x242001_3), (by first | rfl | (simp; done) | (simp [*]; done)), H', ⟨by have := HJ7.out; have := HJ15.out; have := HK3.out; omega⟩, ⟨by (with_reducible repeat (first | apply Kd.R_alloc | apply Kd.R_drewN | apply Kd.R_drew)); exact HO_14.out⟩, ⟨by (with_reducible repeat (first | refine blk_drewN ?_ _ | refine blk_drew ?_ | refine blk_alloc ?_ _)); exact BK241.out⟩, ⟨by repeat (first | (with_reducible first | exact HB.out | apply below_alloc | apply pw_below_drewN | apply below_drew1 | refine below_set ?_ GE241.out | refine below_set ?_ GE251.out) | exact HB.out)⟩⟩
             ·
              replace c27 := Bool.eq_false_iff.mpr c27
              subst c27
              rw [if_neg (show ¬ (false = true) by decide)] at H
              simp only [Option.some.injEq, Prod.mk.injEq] at H
              obtain ⟨rfl, rfl, rfl, rfl⟩ := H
              have p250 : 0 ≤ (x42_3 : Int) := ode
              have q250 : x42_3 < (l3.length : Int) := ode
              obtain ⟨ad250, e250, hx250_0, hx250_1⟩ := at_T27 HR3.out x42_3 p250 q250
              cases e250
              replace hx250_0 := (HB.out.cell (World.block_lt_of_cell? w _ hx250_0)).trans hx250_0
              replace hx250_1 := (HB.out.cell (World.block_lt_of_cell? w _ hx250_1)).trans hx250_1
              replace p250 := eq_true p250
              replace q250 := eq_true q250
              try go_wp2_with (first | ((with_reducible refine gate_dst (N := 16) rfl ?_); (try (refine gate_guard (by rfl) ?_; dsimp only)); refine box_event ?hg (N := 16) ?hd (cs := #[.int .i64 0, .int .i64 0]) (t := 27) ?hr ?_; (case hd => rfl); (case hg => rfl); (case hr => first | (go_simp; done) | (go_simp; rfl)); intro gb251 hg w35 hbox hb; have n0_ := Aside0.mk (Kd.R_below (by (with_reducible repeat (first | apply Kd.R_alloc | apply Kd.R_drewN | apply Kd.R_drew)); exact HO_14.out) hb); have n1_ := Aside0.mk (blk_below (g := gb241) (o := .cells #[.int .i64 x242000_3, .int .i64 x242001_3] 27 (0, 0)) (by (with_reducible repeat (first | refine blk_drewN ?_ _ | refine blk_drew ?_ | refine blk_alloc ?_ _)); exact BK241.out) hb); have n2_ := Aside0.mk (below_step (by repeat (first | (with_reducible first | exact HB.out | apply below_alloc | apply pw_below_drewN | apply below_drew1 | refine below_set ?_ GE241.out) | exact HB.out)) hb); have n3_ := Aside0.mk (hbox); have n4_ := Aside0.mk ((by rw [hg]; exact (below_size (by repeat (first | (with_reducible first | exact HB.out | apply below_alloc | apply pw_below_drewN | apply below_drew1 | refine below_set ?_ GE241.out) | exact HB.out))) : w.heap.size ≤ gb251)); have n5_ := Aside0.mk ((by rw [hg]; exact (below_size (by repeat (first | (with_reducible first | exact HB.out | apply below_alloc | apply pw_below_drewN | apply below_drew1 | refine below_set ?_ GE241.out) | exact HB.out))) : w.heap.size ≤ gb251)); have n6_ := Aside0.mk ((by rw [hg]; exact Nat.ne_of_lt (blk_lt (g := gb241) (o := .cells #[.int .i64 x242000_3, .int .i64 x242001_3] 27 (0, 0)) (by (with_reducible repeat (first | refine blk_drewN ?_ _ | refine blk_drew ?_ | refine blk_alloc ?_ _)); exact BK241.out)) : gb241 ≠ gb251)); have n7_ := Aside0.mk ((by rw [hg]; exact Nat.ne_of_gt (blk_lt (g := gb241) (o := .cells #[.int .i64 x242000_3, .int .i64 x242001_3] 27 (0, 0)) (by (with_reducible repeat (first | refine blk_drewN ?_ _ | refine blk_drew ?_ | refine blk_alloc ?_ _)); exact BK241.out)) : gb251 ≠ gb241)); clear HO_14; clear BK241; clear HB; have HO_14 := n0_; have BK241 := n1_; have HB := n2_; have BK251 := n3_; have GW251 := n4_; have GE251 := n5_; have NB241_251 := n6_; have NB251_241 := n7_; clear n0_ n1_ n2_ n3_ n4_ n5_ n6_ n7_; clear hb hbox hg; have hnb36 := NB251_241.out; have hnc36 := NB241_251.out; have hcz37_0 : w35.cell? ⟨gb251, 0, none⟩ = some (.int .i64 0) := (blk_cell BK251.out 0).trans rfl; have hcz37_1 : w35.cell? ⟨gb251, 1, none⟩ = some (.int .i64 0) := (blk_cell BK251.out 1).trans rfl; have hfz37_0 := blk_frozen BK251.out 0; have hfz37_1 := blk_frozen BK251.out 1))
              have n0_ : Aside0 (Kd.R (Kd.int .i64) 3 ((w35.setCell ⟨gb251, 0, none⟩ (.int .i64 ((rd_T27 l3 x42_3).f0))).setCell ⟨gb251, 1, none⟩ (.int .i64 ((rd_T27 l3 x42_3).f1))) w.heap.size (fun _ => True) u14 x14_7) := ⟨by (with_reducible repeat (first | apply Kd.R_alloc | apply Kd.R_drewN | apply Kd.R_drew)); exact Kd.R_mono (Kd.R_far (p := ⟨gb251, 1, none⟩) (Kd.R_far (p := ⟨gb251, 0, none⟩) (Kd.R_types HO_14.out BK251.out (by decide)) (fun _ hk => hk.2) (.int .i64 ((rd_T27 l3 x42_3).f0))) (fun _ hk => hk.2) (.int .i64 ((rd_T27 l3 x42_3).f1))) (fun _ hk => trivial)⟩
              have n1_ : Aside0 (((w35.setCell ⟨gb251, 0, none⟩ (.int .i64 ((rd_T27 l3 x42_3).f0))).setCell ⟨gb251, 1, none⟩ (.int .i64 ((rd_T27 l3 x42_3).f1))).heap[gb241]? = some (.cells #[.int .i64 x242000_3, .int .i64 x242001_3] 27 (0, 0))) := ⟨by (with_reducible repeat (first | refine blk_drewN ?_ _ | refine blk_drew ?_ | refine blk_alloc ?_ _)); refine blk_far ?_ NB241_251.out _; (with_reducible repeat (first | refine blk_drewN ?_ _ | refine blk_drew ?_ | refine blk_alloc ?_ _)); refine blk_far ?_ NB241_251.out _; (with_reducible repeat (first | refine blk_drewN ?_ _ | refine blk_drew ?_ | refine blk_alloc ?_ _)); exact BK241.out⟩
              have n2_ : Aside0 (((w35.setCell ⟨gb251, 0, none⟩ (.int .i64 ((rd_T27 l3 x42_3).f0))).setCell ⟨gb251, 1, none⟩ (.int .i64 ((rd_T27 l3 x42_3).f1))).heap[gb251]? = some (.cells #[.int .i64 ((rd_T27 l3 x42_3).f0), .int .i64 ((rd_T27 l3 x42_3).f1)] 27 (0, 0))) := ⟨by (with_reducible repeat (first | refine blk_drewN ?_ _ | refine blk_drew ?_ | refine blk_alloc ?_ _)); refine blk_put (cs := #[.int .i64 ((rd_T27 l3 x42_3).f0), .int .i64 0]) ?_ 1 _ rfl; (with_reducible repeat (first | refine blk_drewN ?_ _ | refine blk_drew ?_ | refine blk_alloc ?_ _)); refine blk_put (cs := #[.int .i64 0, .int .i64 0]) ?_ 0 _ rfl; (with_reducible repeat (first | refine blk_drewN ?_ _ | refine blk_drew ?_ | refine blk_alloc ?_ _)); exact BK251.out⟩
              have n3_ : Aside0 (Below w.heap.size w ((w35.setCell ⟨gb251, 0, none⟩ (.int .i64 ((rd_T27 l3 x42_3).f0))).setCell ⟨gb251, 1, none⟩ (.int .i64 ((rd_T27 l3 x42_3).f1)))) := ⟨by repeat (first | (with_reducible first | exact HB.out | apply below_alloc | apply pw_below_drewN | apply below_drew1 | refine below_set ?_ GE241.out | refine below_set ?_ GE251.out) | exact HB.out)⟩
              (try clear HO_14)
              (try clear BK241)
              (try clear BK251)
              (try clear HB)
              generalize ((w35.setCell ⟨gb251, 0, none⟩ (.int .i64 ((rd_T27 l3 x42_3).f0))).setCell ⟨gb251, 1, none⟩ (.int .i64 ((rd_T27 l3 x42_3).f1))) = w38 at n0_ n1_ n2_ n3_ ⊢
              have HO_14 := n0_
              have BK241 := n1_
              have BK251 := n2_
              have HB := n3_
              clear n0_ n1_ n2_ n3_
              have n0_ := Aside0.mk (Kd.R_drew HO_14.out)
              have n1_ := Aside0.mk (blk_drew BK241.out)
              have n2_ := Aside0.mk (blk_drew BK251.out)
              have n3_ := Aside0.mk (below_drew1 HB.out)
              clear HO_14
              clear BK241
              clear BK251
              clear HB
              have HO_14 := n0_
              have BK241 := n1_
              have BK251 := n2_
              have HB := n3_
              clear n0_ n1_ n2_ n3_
              obtain ⟨Ao40, co40, eo40⟩ := Kd.R_slice HO_14.out
              (first | subst eo40 | (injection eo40 with f1_ f2_ f3_; have f4_ := f1_.symm; have f5_ := f3_.symm; clear f1_ f2_ f3_; subst f4_; subst f5_))
              have p252 : 0 ≤ (x42_3 : Int) := ode
              have q252 : x42_3 < (x14_7.length : Int) := ode
              obtain ⟨ad252, e252, hx252_0⟩ := Kd.at_int (Kd.R_reads' HO_14.out).2.2 x42_3 p252 q252
              cases e252
              replace p252 := eq_true p252
              replace q252 := eq_true q252
              refine start_ (n := 7) (S := fun w' => w'.cell? ⟨gb251, 0, none⟩ = some (.int .i64 ((rd_T27 l3 x42_3).f0)) ∧ w'.cell? ⟨gb251, 1, none⟩ = some (.int .i64 ((rd_T27 l3 x42_3).f1)) ∧ w'.cell? (ad252.add (x42_3).toNat) = some (.int .i64 (rd x14_7 x42_3))) (ds := []) #[false, false, false, false, false, false, false] (by kernel_rfl) rfl rfl ⟨(blk_cell BK251.out 0).trans rfl, (blk_cell BK251.out 1).trans rfl, hx252_0⟩ (fun hHeld => ?_)
              generalize w38.drew = w39 at HO_14 BK241 BK251 HB hx252_0 hHeld ⊢
              refine pure_ (i := 1) (N := some 48) (v := ?_) (a' := ?_) #[false, true, false, false, false, false, false] rfl rfl (by kernel_rfl) (fun _ _ _ h => h) (Or.inl ⟨by rfl, ?_⟩) ?_ ?_
              rotate_left
              ·
               intro w'
               go_simp
               with_reducible rfl
              rotate_left
              ·
               simp only [Act.put, List.setIfInBounds_toArray, List.set_cons_zero, List.set_cons_succ, i64_w, i32_w]
               rfl
              refine pure_ (i := 2) (N := some 49) (v := ?_) (a' := ?_) #[false, true, true, false, false, false, false] rfl rfl (by kernel_rfl) (fun _ _ _ h => h) (Or.inl ⟨by rfl, ?_⟩) ?_ ?_
              rotate_left
              ·
               intro w'
               go_simp
               with_reducible rfl
              rotate_left
              ·
               simp only [Act.put, List.setIfInBounds_toArray, List.set_cons_zero, List.set_cons_succ, i64_w, i32_w]
               rfl
              refine pure_ (i := 3) (N := some 50) (v := ?_) (a' := ?_) #[false, true, true, true, false, false, false] rfl rfl (by kernel_rfl) (fun _ _ _ h => h) (Or.inl ⟨by rfl, ?_⟩) ?_ ?_
              rotate_left
              ·
               intro w'
               go_simp
               with_reducible rfl
              rotate_left
              ·
               simp only [Act.put, List.setIfInBounds_toArray, List.set_cons_zero, List.set_cons_succ, i64_w, i32_w]
               rfl
              refine take_ (i := 0) (N := some 47) (v := ?_) (a' := ?_) #[true, true, true, true, false, false, false] rfl rfl (by kernel_rfl) (fun _ _ _ h => h) (Or.inl ⟨by rfl, ?_⟩) hHeld ?_ ?_
              rotate_left
              ·
               rintro w' ⟨s0, s1, s2⟩
               go_simp
               with_reducible rfl
              rotate_left
              ·
               simp only [Act.put, List.setIfInBounds_toArray, List.set_cons_zero, List.set_cons_succ, i64_w, i32_w]
               rfl
              refine take_ (i := 4) (N := some 51) (v := ?_) (a' := ?_) #[true, true, true, true, true, false, false] rfl rfl (by kernel_rfl) (fun _ _ _ h => h) (Or.inl ⟨by rfl, ?_⟩) hHeld ?_ ?_
              rotate_left
              ·
               rintro w' ⟨s0, s1, s2⟩
               go_simp
               with_reducible rfl
              rotate_left
              ·
               simp only [Act.put, List.setIfInBounds_toArray, List.set_cons_zero, List.set_cons_succ, i64_w, i32_w]
               rfl
              refine one_ (i := 5) (N := some 52) #[true, true, true, true, true, true, false] rfl rfl (by kernel_rfl) (by decide) (fun K hK => ?_)
              refine goes_ Tryd.func24 (by kernel_rfl) rfl #[.agg #[.int .i64 ((rd_T27 l3 x42_3).f0), .int .i64 ((rd_T27 l3 x42_3).f1)], .int .i64 (rd x14_7 x42_3)] (by rfl) rfl rfl aeq ?_
              with_reducible refine (sequencer_fits.calls ((rd_T27 l3 x42_3).f0) ((rd_T27 l3 x42_3).f1) (rd x14_7 x42_3) false _ A26.out).mono ?_
              rintro e w41 ⟨rfl, hb⟩
              have HS2_ := (hb.cell (World.block_lt_of_cell? _ _ (hHeld.2.2))).trans (hHeld.2.2)
              refine ⟨_, rfl, ?_⟩
              have n0_ := Aside0.mk (Kd.R_below (by (with_reducible repeat (first | apply Kd.R_alloc | apply Kd.R_drewN | apply Kd.R_drew)); exact HO_14.out) hb)
              have n1_ := Aside0.mk (blk_below (g := gb241) (o := .cells #[.int .i64 x242000_3, .int .i64 x242001_3] 27 (0, 0)) (by (with_reducible repeat (first | refine blk_drewN ?_ _ | refine blk_drew ?_ | refine blk_alloc ?_ _)); exact BK241.out) hb)
              have n2_ := Aside0.mk (blk_below (g := gb251) (o := .cells #[.int .i64 ((rd_T27 l3 x42_3).f0), .int .i64 ((rd_T27 l3 x42_3).f1)] 27 (0, 0)) (by (with_reducible repeat (first | refine blk_drewN ?_ _ | refine blk_drew ?_ | refine blk_alloc ?_ _)); exact BK251.out) hb)
              have n3_ := Aside0.mk (below_step (by repeat (first | (with_reducible first | exact HB.out | apply below_alloc | apply pw_below_drewN | apply below_drew1 | refine below_set ?_ GE241.out | refine below_set ?_ GE251.out) | exact HB.out)) hb)
              clear HO_14
              clear BK241
              clear BK251
              clear HB
              have HO_14 := n0_
              have BK241 := n1_
              have BK251 := n2_
              have HB := n3_
              clear n0_ n1_ n2_ n3_
              (try clear hb)
              (try clear hb2)
              (try clear hk)
              (try clear hi)
              refine hK.out _ _ ⟨(blk_cell BK251.out 0).trans rfl, (blk_cell BK251.out 1).trans rfl, HS2_⟩ (fun hHeld => ?_)
              clear hK K
              refine norm_ (a' := ?_) ?_ ?_
              rotate_left
              ·
               show Act.put _ (some 52) _ = _
               simp only [Act.put, List.setIfInBounds_toArray, List.set_cons_zero, List.set_cons_succ, i64_w, i32_w]
               rfl
              refine pure_ (i := 6) (N := some 53) (v := ?_) (a' := ?_) #[true, true, true, true, true, true, true] rfl rfl (by kernel_rfl) (fun _ _ _ h => h) (Or.inl ⟨by rfl, ?_⟩) ?_ ?_
              rotate_left
              ·
               intro w'
               go_simp
               with_reducible rfl
              rotate_left
              ·
               simp only [Act.put, List.setIfInBounds_toArray, List.set_cons_zero, List.set_cons_succ, i64_w, i32_w]
               rfl
              refine done_ (by kernel_rfl) ?_
              have hcz42_0 : w41.cell? ⟨gb241, 0, none⟩ = some (.int .i64 x242000_3) := (blk_cell BK241.out 0).trans rfl
              have hcz42_1 : w41.cell? ⟨gb241, 1, none⟩ = some (.int .i64 x242001_3) := (blk_cell BK241.out 1).trans rfl
              have hfz42_0 := blk_frozen BK241.out 0
              have hfz42_1 := blk_frozen BK241.out 1
              try go_wp2
              refine bodyPost_ret (results_list (rs := [.tmp 10, .cell 11 27, .tmp 12]) rfl (by simp) (.tmp (.cell gb241 27 #[.int .i64 0, .int .i64 0] (0, 0) _ rfl (by (with_reducible repeat (first | refine blk_drewN ?_ _ | refine blk_drew ?_ | refine blk_alloc ?_ _)); refine blk_put (cs := #[.int .i64 0, .int .i64 x242001_3]) ?_ 1 _ rfl; (with_reducible repeat (first | refine blk_drewN ?_ _ | refine blk_drew ?_ | refine blk_alloc ?_ _)); refine blk_put (cs := #[.int .i64 x242000_3, .int .i64 x242001_3]) ?_ 0 _ rfl; (with_reducible repeat (first | refine blk_drewN ?_ _ | refine blk_drew ?_ | refine blk_alloc ?_ _)); exact BK241.out) Tryd.underlying27 rfl (by kernel_rfl) (.tmp .nil)))) rfl ?_
              exact ⟨_, by first | rfl | (simp [errW_none, errW_some] <;> rfl) | (simp [*, errW_none, errW_some] <;> rfl), by first | exact Kd.R_nil _ _ _ _ _ | exact Kd.N_nil _ _ _ _ _ | exact Kd.V_nil _ _ _ _ _ | exact Kd.Q_nil _ _ _ _ _ | exact Kd.S_nil _ _ _ _ _, by repeat (first | (with_reducible first | exact HB.out | apply below_alloc | apply pw_below_drewN | apply below_drew1 | refine below_set ?_ GE241.out | refine below_set ?_ GE251.out) | exact HB.out)⟩
            ·
             rw [if_neg c25] at H
             exact absurd H (by simp)
           ·
            rw [if_neg c24] at H
            exact absurd H (by simp)
          ·
           rw [if_neg c23] at H
           exact absurd H (by simp)
         ·
          rw [if_neg c22] at H
          have c22b0 : decide (x42_3 < (l3.length : Int)) = false := decide_eq_false c22
          clear c22
          replace H := Option.bind_eq_some_iff.mp H
          obtain ⟨t254, A430, H⟩ := H
          replace H : (if t254 = true then (if a0.toList = ([115, 116, 97, 103, 101] : List UInt8) then (if 0 < (l3.length : Int) then ((sequencer_stage.f k3 l1 l2 ((rd_T27 l3 0).f1) a4).bind fun t256 => (if 0 < (t256.length : Int) then (some (t256, 3, wrap64 ((rd t256 0) + 1), 0)) else (none))) else (none)) else (if 0 < (l3.length : Int) then (if 1 < (l3.length : Int) then ((sequencer_steps.f l1 l2 (((rd_T27 l3 0).f1) == 1) (((rd_T27 l3 1).f1) == 1) a4).bind fun t262 => (if 0 < (t262.length : Int) then (some (t262, 3, wrap64 ((rd t262 0) + 1), 0)) else (none))) else (none)) else (none))) else (some (([] : List Int), 0, 0, 8))) = some (r1, r2, r3, r4) := H
          have A43 := Aside0.mk A430
          clear A430
          by_cases c44 : t254 = true
          ·
           subst c44
           rw [if_pos rfl] at H
           by_cases c45 : a0.toList = ([115, 116, 97, 103, 101] : List UInt8)
           ·
            rw [if_pos c45] at H
            have c45b0 : (a0.toList == ([115, 116, 97, 103, 101] : List UInt8)) = true := beq_iff_eq.mpr c45
            have c45b1 : (a0.toList != ([115, 116, 97, 103, 101] : List UInt8)) = false := bne_eq_false_iff_eq.mpr c45
            clear c45
            by_cases c46 : 0 < (l3.length : Int)
            ·
             rw [if_pos c46] at H
             have c46b0 : decide (0 < (l3.length : Int)) = true := decide_eq_true c46
             have c46b1 : decide (0 < l3.length) = true := decide_eq_true (by omega)
             clear c46
             replace H := Option.bind_eq_some_iff.mp H
             obtain ⟨t256, A470, H⟩ := H
             replace H : (if 0 < (t256.length : Int) then (some (t256, 3, wrap64 ((rd t256 0) + 1), 0)) else (none)) = some (r1, r2, r3, r4) := H
             have A47 := Aside0.mk A470
             clear A470
             by_cases c48 : 0 < (t256.length : Int)
             ·
              rw [if_pos c48] at H
              have c48b0 : decide (0 < (t256.length : Int)) = true := decide_eq_true c48
              have c48b1 : decide (0 < t256.length) = true := decide_eq_true (by omega)
              clear c48
              simp only [Option.some.injEq, Prod.mk.injEq] at H
              obtain ⟨rfl, rfl, rfl, rfl⟩ := H
              try go_wp2_with (first | ((with_reducible refine gate_callee (f := 25) rfl ?_); refine goesL_ (some 59) rfl rfl Tryd.func25 (by kernel_rfl) rfl #[.string a0, .slice A1 l1.length c1, .slice A2 l2.length c2] rfl aeq ?_; (with_reducible refine (sequencer_possible.calls k3 a0 _ _ l1 _ _ l2 true _ ?side1 ?side2 ?side3 ?side4 A43.out).mono ?_); (case side1 => repeat (first | exact (Kd.C_below HR1.out HB.out) | (with_reducible refine Kd.C_alloc ?_ _) | (with_reducible refine Kd.C_drewN ?_ _) | (with_reducible refine Kd.C_drew ?_))); (case side2 => exact HC1.out); (case side3 => repeat (first | exact (Kd.C_below HR2.out HB.out) | (with_reducible refine Kd.C_alloc ?_ _) | (with_reducible refine Kd.C_drewN ?_ _) | (with_reducible refine Kd.C_drew ?_))); (case side4 => exact HC2.out); rintro e w' ⟨rfl, ⟨nd, rfl⟩⟩; refine ⟨_, rfl, ?_⟩; (try (rw [drewN_self wr]; generalize hq_ : World.drewN wr _ = wr; have n0_ : Aside0 (Kd.R (Kd.int .i64) 3 wr w.heap.size (fun _ => True) u14 x14_7) := ⟨by rw [← hq_]; exact (by (with_reducible repeat (first | apply Kd.R_alloc | apply Kd.R_drewN | apply Kd.R_drew)); exact HO_14.out)⟩; have n1_ : Aside0 (wr.heap[gb241]? = some (.cells #[.int .i64 x242000_3, .int .i64 x242001_3] 27 (0, 0))) := ⟨by rw [← hq_]; exact (by (with_reducible repeat (first | refine blk_drewN ?_ _ | refine blk_drew ?_ | refine blk_alloc ?_ _)); exact BK241.out)⟩; have n2_ : Aside0 (Below w.heap.size w wr) := ⟨by rw [← hq_]; exact (by repeat (first | (with_reducible first | exact HB.out | apply below_alloc | apply pw_below_drewN | apply below_drew1 | refine below_set ?_ GE241.out) | exact HB.out))⟩; clear HO_14 BK241 HB hq_; have HO_14 := n0_; have BK241 := n1_; have HB := n2_; clear n0_ n1_ n2_)); have p255 : 0 ≤ (0 : Int) := (by omega); have q255 : 0 < (l3.length : Int) := ode; obtain ⟨ad255, e255, hx255_0, hx255_1⟩ := at_T27 HR3.out 0 p255 q255; cases e255; have qi255 : (0 < l3.length) = True := eq_true (by omega); (try rw [show ((0 : Int)).toNat = 0 from rfl] at hx255_0); (try rw [show 0 * 2 = 0 from rfl] at hx255_0); (try rw [Addr.add_zero'] at hx255_0); (try rw [show ((0 : Int)).toNat = 0 from rfl] at hx255_1); (try rw [show 0 * 2 = 0 from rfl] at hx255_1); (try rw [Addr.add_zero'] at hx255_1); replace hx255_0 := (HB.out.cell (World.block_lt_of_cell? w _ hx255_0)).trans hx255_0; replace hx255_1 := (HB.out.cell (World.block_lt_of_cell? w _ hx255_1)).trans hx255_1; replace p255 := eq_true p255; replace q255 := eq_true q255) | ((with_reducible refine gate_callee (f := 26) rfl ?_); refine goesL_ (some 71) rfl rfl Tryd.func26 (by kernel_rfl) rfl #[.slice A1 l1.length c1, .slice A2 l2.length c2, .int .i64 ((rd_T27 l3 0).f1), .int .i64 a4] rfl aeq ?_; (with_reducible refine (sequencer_stage.calls k3 _ _ l1 _ _ l2 ((rd_T27 l3 0).f1) a4 t256 _ ?side1 ?side2 ?side3 ?side4 A47.out).mono ?_); (case side1 => repeat (first | exact (Kd.C_below HR1.out HB.out) | (with_reducible refine Kd.C_alloc ?_ _) | (with_reducible refine Kd.C_drewN ?_ _) | (with_reducible refine Kd.C_drew ?_))); (case side2 => exact HC1.out); (case side3 => repeat (first | exact (Kd.C_below HR2.out HB.out) | (with_reducible refine Kd.C_alloc ?_ _) | (with_reducible refine Kd.C_drewN ?_ _) | (with_reducible refine Kd.C_drew ?_))); (case side4 => exact HC2.out); rintro e w49 ⟨v257, rfl, ho0, hb⟩; refine ⟨_, rfl, ?_⟩; have n0_ := Aside0.mk (Kd.R_below (by (with_reducible repeat (first | apply Kd.R_alloc | apply Kd.R_drewN | apply Kd.R_drew)); exact HO_14.out) hb); have n1_ := Aside0.mk (Kd.R_lower ho0 (below_size (by repeat (first | (with_reducible first | exact HB.out | apply below_alloc | apply pw_below_drewN | apply below_drew1 | refine below_set ?_ GE241.out) | exact HB.out)))); have n2_ := Aside0.mk (blk_below (g := gb241) (o := .cells #[.int .i64 x242000_3, .int .i64 x242001_3] 27 (0, 0)) (by (with_reducible repeat (first | refine blk_drewN ?_ _ | refine blk_drew ?_ | refine blk_alloc ?_ _)); exact BK241.out) hb); have n3_ := Aside0.mk (below_step (by repeat (first | (with_reducible first | exact HB.out | apply below_alloc | apply pw_below_drewN | apply below_drew1 | refine below_set ?_ GE241.out) | exact HB.out)) hb); clear HO_14; clear BK241; clear HB; have HO_14 := n0_; have HO258 := n1_; have BK241 := n2_; have HB := n3_; clear n0_ n1_ n2_ n3_; (try clear hb); (try clear hb2); (try clear hk); (try clear hi); (try clear ho0)))
              have n0_ := Aside0.mk (Kd.R_drew HO_14.out)
              have n1_ := Aside0.mk (Kd.R_drew HO258.out)
              have n2_ := Aside0.mk (blk_drew BK241.out)
              have n3_ := Aside0.mk (below_drew1 HB.out)
              clear HO_14
              clear HO258
              clear BK241
              clear HB
              have HO_14 := n0_
              have HO258 := n1_
              have BK241 := n2_
              have HB := n3_
              clear n0_ n1_ n2_ n3_
              obtain ⟨Ao51, co51, eo51⟩ := Kd.R_slice HO258.out
              (first | subst eo51 | (injection eo51 with f1_ f2_ f3_; have f4_ := f1_.symm; have f5_ := f3_.symm; clear f1_ f2_ f3_; subst f4_; subst f5_))
              have p259 : 0 ≤ (0 : Int) := (by omega)
              have q259 : 0 < (t256.length : Int) := ode
              obtain ⟨ad259, e259, hx259_0⟩ := Kd.at_int (Kd.R_reads' HO258.out).2.2 0 p259 q259
              cases e259
              have qi259 : (0 < t256.length) = True := eq_true (by omega)
              (try rw [show ((0 : Int)).toNat = 0 from rfl] at hx259_0)
              (try rw [Addr.add_zero'] at hx259_0)
              replace p259 := eq_true p259
              replace q259 := eq_true q259
              refine start_ (n := 9) (S := fun w' => w'.cell? ad259 = some (.int .i64 (rd t256 0))) (ds := []) #[false, false, false, false, false, false, false, false, false] (by kernel_rfl) rfl rfl (hx259_0) (fun hHeld => ?_); refine with_tabW sequencer_Step.tab21 sequencer_Step.bits21 (fun HT_ HW_ => ?_)
              generalize w49.drew = w50 at HO_14 HO258 BK241 HB hx259_0 hHeld ⊢
              refine pure_ (i := 0) (N := some 86) (v := ?_) (a' := ?_) #[true, false, false, false, false, false, false, false, false] rfl rfl (any_of HT_.out (by kernel_rfl)) (fun _ _ _ h => h) (Or.inl ⟨by rfl, ?_⟩) ?_ ?_
              rotate_left
              ·
               intro w'
               go_simp
               with_reducible rfl
              rotate_left
              ·
               simp only [Act.put, List.setIfInBounds_toArray, List.set_cons_zero, List.set_cons_succ, i64_w, i32_w]
               rfl
              refine pure_ (i := 1) (N := some 87) (v := ?_) (a' := ?_) #[true, true, false, false, false, false, false, false, false] rfl rfl (any_of HT_.out (by kernel_rfl)) (fun _ _ _ h => h) (Or.inl ⟨by rfl, ?_⟩) ?_ ?_
              rotate_left
              ·
               intro w'
               go_simp
               with_reducible rfl
              rotate_left
              ·
               simp only [Act.put, List.setIfInBounds_toArray, List.set_cons_zero, List.set_cons_succ, i64_w, i32_w]
               rfl
              refine pure_ (i := 2) (N := some 88) (v := ?_) (a' := ?_) #[true, true, true, false, false, false, false, false, false] rfl rfl (any_of HT_.out (by kernel_rfl)) (fun _ _ _ h => h) (Or.inl ⟨by rfl, ?_⟩) ?_ ?_
              rotate_left
              ·
               intro w'
               go_simp
               with_reducible rfl
              rotate_left
              ·
               simp only [Act.put, List.setIfInBounds_toArray, List.set_cons_zero, List.set_cons_succ, i64_w, i32_w]
               rfl
              refine pure_ (i := 6) (N := some 10) (v := ?_) (a' := ?_) #[true, true, true, false, false, false, true, false, false] rfl rfl (any_of HT_.out (by kernel_rfl)) (fun _ _ _ h => h) (Or.inl ⟨by rfl, ?_⟩) ?_ ?_
              rotate_left
              ·
               intro w'
               go_simp
               with_reducible rfl
              rotate_left
              ·
               simp only [Act.put, List.setIfInBounds_toArray, List.set_cons_zero, List.set_cons_succ, i64_w, i32_w]
               rfl
              refine take_ (i := 3) (N := some 89) (v := ?_) (a' := ?_) #[true, true, true, true, false, false, true, false, false] rfl rfl (take_ofW HT_.out HW_.out (by kernel_rfl)) (fun _ _ _ h => h) (Or.inl ⟨by rfl, ?_⟩) hHeld ?_ ?_
              rotate_left
              ·
               intro w' s0
               go_simp
               with_reducible rfl
              rotate_left
              ·
               simp only [Act.put, List.setIfInBounds_toArray, List.set_cons_zero, List.set_cons_succ, i64_w, i32_w]
               rfl
              refine pure_ (i := 4) (N := some 90) (v := ?_) (a' := ?_) #[true, true, true, true, true, false, true, false, false] rfl rfl (any_of HT_.out (by kernel_rfl)) (fun _ _ _ h => h) (Or.inl ⟨by rfl, ?_⟩) ?_ ?_
              rotate_left
              ·
               intro w'
               go_simp
               with_reducible rfl
              rotate_left
              ·
               simp only [Act.put, List.setIfInBounds_toArray, List.set_cons_zero, List.set_cons_succ, i64_w, i32_w]
               rfl
              refine pure_ (i := 5) (N := some 91) (v := ?_) (a' := ?_) #[true, true, true, true, true, true, true, false, false] rfl rfl (any_of HT_.out (by kernel_rfl)) (fun _ _ _ h => h) (Or.inl ⟨by rfl, ?_⟩) ?_ ?_
              rotate_left
              ·
               intro w'
               go_simp
               with_reducible rfl
              rotate_left
              ·
               simp only [Act.put, List.setIfInBounds_toArray, List.set_cons_zero, List.set_cons_succ, i64_w, i32_w]
               rfl
              refine one_ (i := 7) (N := none) #[true, true, true, true, true, true, true, true, false] rfl rfl (one_of HT_.out (by kernel_rfl)) (by decide) (fun K hK => ?_)
              have hs52 : w50.cell? ⟨gb241, 0, none⟩ = some (.int .i64 x242000_3) := (blk_cell BK241.out 0).trans rfl
              have hfs52 := blk_frozen BK241.out 0
              have hs53 : w50.cell? ⟨gb241, 1, none⟩ = some (.int .i64 x242001_3) := (blk_cell BK241.out 1).trans rfl
              have hfs53 := blk_frozen BK241.out 1
              refine skip_ (w1 := ?_) (by rfl) rfl ?_ ?_
              rotate_left
              ·
               go_simp
               rfl
              refine hK.out _ _ (((cell_far (p := ⟨gb241, _, none⟩) (by first | exact Kd.own_blk (Kd.R_ne HO258.out BK241.out (by decide)) | (rw [add_block]; exact Kd.own_blk (Kd.R_ne HO258.out BK241.out (by decide))) | (show (Addr.add _ _).block ≠ _; rw [add_block]; exact Kd.own_blk (Kd.R_ne HO258.out BK241.out (by decide))) | (dsimp only; exact Kd.own_blk (Kd.R_ne HO258.out BK241.out (by decide)))) _).trans (((cell_far (p := ⟨gb241, _, none⟩) (by first | exact Kd.own_blk (Kd.R_ne HO258.out BK241.out (by decide)) | (rw [add_block]; exact Kd.own_blk (Kd.R_ne HO258.out BK241.out (by decide))) | (show (Addr.add _ _).block ≠ _; rw [add_block]; exact Kd.own_blk (Kd.R_ne HO258.out BK241.out (by decide))) | (dsimp only; exact Kd.own_blk (Kd.R_ne HO258.out BK241.out (by decide)))) _).trans (hHeld))))) (fun hHeld => ?_)
              clear hK K
              refine pure_ (i := 8) (N := some 12) (v := ?_) (a' := ?_) #[true, true, true, true, true, true, true, true, true] rfl rfl (any_of HT_.out (by kernel_rfl)) (fun _ _ _ h => h) (Or.inl ⟨by rfl, ?_⟩) ?_ ?_
              rotate_left
              ·
               intro w'
               go_simp
               with_reducible rfl
              rotate_left
              ·
               simp only [Act.put, List.setIfInBounds_toArray, List.set_cons_zero, List.set_cons_succ, i64_w, i32_w]
               rfl
              refine done_ (done_of HT_.out (by kernel_rfl)) ?_
              try go_wp2
              refine bodyPost_ret (results_list (rs := [.tmp 10, .cell 11 27, .tmp 12]) rfl (by simp) (.tmp (.cell gb241 27 #[.int .i64 3, .int .i64 (wrap64 ((rd t256 0) + 1))] (0, 0) _ rfl (by (with_reducible repeat (first | refine blk_drewN ?_ _ | refine blk_drew ?_ | refine blk_alloc ?_ _)); refine blk_put (cs := #[.int .i64 3, .int .i64 x242001_3]) ?_ 1 _ rfl; (with_reducible repeat (first | refine blk_drewN ?_ _ | refine blk_drew ?_ | refine blk_alloc ?_ _)); refine blk_put (cs := #[.int .i64 x242000_3, .int .i64 x242001_3]) ?_ 0 _ rfl; (with_reducible repeat (first | refine blk_drewN ?_ _ | refine blk_drew ?_ | refine blk_alloc ?_ _)); exact BK241.out) Tryd.underlying27 rfl (by kernel_rfl) (.tmp .nil)))) rfl ?_
              exact ⟨_, by first | rfl | (simp [errW_none, errW_some] <;> rfl) | (simp [*, errW_none, errW_some] <;> rfl), by (with_reducible repeat (first | apply Kd.R_alloc | apply Kd.R_drewN | apply Kd.R_drew)); exact Kd.R_mono (Kd.R_far (p := ⟨gb241, 1, none⟩) (Kd.R_far (p := ⟨gb241, 0, none⟩) (Kd.R_types HO258.out BK241.out (by decide)) (fun _ hk => hk.2) (.int .i64 3)) (fun _ hk => hk.2) (.int .i64 (wrap64 ((rd t256 0) + 1)))) (fun _ hk => trivial), by repeat (first | (with_reducible first | exact HB.out | apply below_alloc | apply pw_below_drewN | apply below_drew1 | refine below_set ?_ GE241.out) | exact HB.out)⟩
             ·
              rw [if_neg c48] at H
              exact absurd H (by simp)
            ·
             rw [if_neg c46] at H
             exact absurd H (by simp)
           ·
            rw [if_neg c45] at H
            have c45b0 : (a0.toList == ([115, 116, 97, 103, 101] : List UInt8)) = false := beq_eq_false_iff_ne.mpr c45
            have c45b1 : (a0.toList != ([115, 116, 97, 103, 101] : List UInt8)) = true := bne_iff_ne.mpr c45
            by_cases c54 : 0 < (l3.length : Int)
            ·
             rw [if_pos c54] at H
             have c54b0 : decide (0 < (l3.length : Int)) = true := decide_eq_true c54
             have c54b1 : decide (0 < l3.length) = true := decide_eq_true (by omega)
             clear c54
             by_cases c55 : 1 < (l3.length : Int)
             ·
              rw [if_pos c55] at H
              have c55b0 : decide (1 < (l3.length : Int)) = true := decide_eq_true c55
              have c55b1 : decide (1 < l3.length) = true := decide_eq_true (by omega)
              clear c55
              replace H := Option.bind_eq_some_iff.mp H
              obtain ⟨t262, A560, H⟩ := H
              replace H : (if 0 < (t262.length : Int) then (some (t262, 3, wrap64 ((rd t262 0) + 1), 0)) else (none)) = some (r1, r2, r3, r4) := H
              have A56 := Aside0.mk A560
              clear A560
              by_cases c57 : 0 < (t262.length : Int)
              ·
               rw [if_pos c57] at H
               have c57b0 : decide (0 < (t262.length : Int)) = true := decide_eq_true c57
               have c57b1 : decide (0 < t262.length) = true := decide_eq_true (by omega)
               clear c57
               simp only [Option.some.injEq, Prod.mk.injEq] at H
               obtain ⟨rfl, rfl, rfl, rfl⟩ := H
               try go_wp2_with (first | ((with_reducible refine gate_callee (f := 25) rfl ?_); refine goesL_ (some 59) rfl rfl Tryd.func25 (by kernel_rfl) rfl #[.string a0, .slice A1 l1.length c1, .slice A2 l2.length c2] rfl aeq ?_; (with_reducible refine (sequencer_possible.calls k3 a0 _ _ l1 _ _ l2 true _ ?side1 ?side2 ?side3 ?side4 A43.out).mono ?_); (case side1 => repeat (first | exact (Kd.C_below HR1.out HB.out) | (with_reducible refine Kd.C_alloc ?_ _) | (with_reducible refine Kd.C_drewN ?_ _) | (with_reducible refine Kd.C_drew ?_))); (case side2 => exact HC1.out); (case side3 => repeat (first | exact (Kd.C_below HR2.out HB.out) | (with_reducible refine Kd.C_alloc ?_ _) | (with_reducible refine Kd.C_drewN ?_ _) | (with_reducible refine Kd.C_drew ?_))); (case side4 => exact HC2.out); rintro e w' ⟨rfl, ⟨nd, rfl⟩⟩; refine ⟨_, rfl, ?_⟩; (try (rw [drewN_self wr]; generalize hq_ : World.drewN wr _ = wr; have n0_ : Aside0 (Kd.R (Kd.int .i64) 3 wr w.heap.size (fun _ => True) u14 x14_7) := ⟨by rw [← hq_]; exact (by (with_reducible repeat (first | apply Kd.R_alloc | apply Kd.R_drewN | apply Kd.R_drew)); exact HO_14.out)⟩; have n1_ : Aside0 (wr.heap[gb241]? = some (.cells #[.int .i64 x242000_3, .int .i64 x242001_3] 27 (0, 0))) := ⟨by rw [← hq_]; exact (by (with_reducible repeat (first | refine blk_drewN ?_ _ | refine blk_drew ?_ | refine blk_alloc ?_ _)); exact BK241.out)⟩; have n2_ : Aside0 (Below w.heap.size w wr) := ⟨by rw [← hq_]; exact (by repeat (first | (with_reducible first | exact HB.out | apply below_alloc | apply pw_below_drewN | apply below_drew1 | refine below_set ?_ GE241.out) | exact HB.out))⟩; clear HO_14 BK241 HB hq_; have HO_14 := n0_; have BK241 := n1_; have HB := n2_; clear n0_ n1_ n2_))))
               have n0_ := Aside0.mk (Kd.R_drew HO_14.out)
               have n1_ := Aside0.mk (blk_drew BK241.out)
               have n2_ := Aside0.mk (below_drew1 HB.out)
               clear HO_14
               clear BK241
               clear HB
               have HO_14 := n0_
               have BK241 := n1_
               have HB := n2_
               clear n0_ n1_ n2_
               have p260 : 0 ≤ (0 : Int) := (by omega)
               have q260 : 0 < (l3.length : Int) := ode
               obtain ⟨ad260, e260, hx260_0, hx260_1⟩ := at_T27 HR3.out 0 p260 q260
               have hw260_1 := hx260_1
               (try rw [show ((0 : Int)).toNat = 0 from rfl] at hw260_1)
               (try rw [show 0 * 2 = 0 from rfl] at hw260_1)
               (try rw [Addr.add_zero'] at hw260_1)
               have hw260_0 := hx260_0
               (try rw [show ((0 : Int)).toNat = 0 from rfl] at hw260_0)
               (try rw [show 0 * 2 = 0 from rfl] at hw260_0)
               (try rw [Addr.add_zero'] at hw260_0)
               cases e260
               have qi260 : (0 < l3.length) = True := eq_true (by omega)
               (try rw [show ((0 : Int)).toNat = 0 from rfl] at hx260_0)
               (try rw [show 0 * 2 = 0 from rfl] at hx260_0)
               (try rw [Addr.add_zero'] at hx260_0)
               (try rw [show ((0 : Int)).toNat = 0 from rfl] at hx260_1)
               (try rw [show 0 * 2 = 0 from rfl] at hx260_1)
               (try rw [Addr.add_zero'] at hx260_1)
               replace hx260_0 := (HB.out.cell (World.block_lt_of_cell? w _ hx260_0)).trans hx260_0
               replace hx260_1 := (HB.out.cell (World.block_lt_of_cell? w _ hx260_1)).trans hx260_1
               replace p260 := eq_true p260
               replace q260 := eq_true q260
               have p261 : 0 ≤ (1 : Int) := (by omega)
               have q261 : 1 < (l3.length : Int) := ode
               obtain ⟨ad261, e261, hx261_0, hx261_1⟩ := at_T27 HR3.out 1 p261 q261
               have hw261_1 := hx261_1
               (try rw [show ((1 : Int)).toNat = 1 from rfl] at hw261_1)
               (try rw [show 1 * 2 = 2 from rfl] at hw261_1)
               (try simp only [Nat.reduceMul, Nat.reduceEqDiff, Go.Addr.add, ↓reduceIte] at hw261_1)
               have hw261_0 := hx261_0
               (try rw [show ((1 : Int)).toNat = 1 from rfl] at hw261_0)
               (try rw [show 1 * 2 = 2 from rfl] at hw261_0)
               (try simp only [Nat.reduceMul, Nat.reduceEqDiff, Go.Addr.add, ↓reduceIte] at hw261_0)
               obtain rfl : ad260 = ad261 := (by injection e261)
               (try simp only [show (1 : Int).toNat = 1 from rfl, Nat.reduceMul, Nat.reduceEqDiff, Go.Addr.add, ↓reduceIte] at hx261_0)
               (try simp only [show (1 : Int).toNat = 1 from rfl, Nat.reduceMul, Nat.reduceEqDiff, Go.Addr.add, ↓reduceIte] at hx261_1)
               have qi261 : (1 < l3.length) = True := eq_true (by omega)
               (try rw [show ((1 : Int)).toNat = 1 from rfl] at hx261_0)
               (try rw [show 1 * 2 = 2 from rfl] at hx261_0)
               (try rw [show ((1 : Int)).toNat = 1 from rfl] at hx261_1)
               (try rw [show 1 * 2 = 2 from rfl] at hx261_1)
               replace hx261_0 := (HB.out.cell (World.block_lt_of_cell? w _ hx261_0)).trans hx261_0
               replace hx261_1 := (HB.out.cell (World.block_lt_of_cell? w _ hx261_1)).trans hx261_1
               replace p261 := eq_true p261
               replace q261 := eq_true q261
               refine start_ (n := 15) (S := fun w' => w'.cell? ad260 = some (.int .i64 ((rd_T27 l3 0).f0)) ∧ w'.cell? ⟨ad260.block, ad260.off + 1, none⟩ = some (.int .i64 ((rd_T27 l3 0).f1)) ∧ w'.cell? ⟨ad260.block, ad260.off + 2, none⟩ = some (.int .i64 ((rd_T27 l3 1).f0)) ∧ w'.cell? ⟨ad260.block, ad260.off + 2 + 1, none⟩ = some (.int .i64 ((rd_T27 l3 1).f1))) (ds := []) #[false, false, false, false, false, false, false, false, false, false, false, false, false, false, false] (by kernel_rfl) rfl rfl ⟨((HB.out.cell (World.block_lt_of_cell? w _ hw260_0)).trans hw260_0), ((HB.out.cell (World.block_lt_of_cell? w _ hw260_1)).trans hw260_1), ((HB.out.cell (World.block_lt_of_cell? w _ hw261_0)).trans hw261_0), ((HB.out.cell (World.block_lt_of_cell? w _ hw261_1)).trans hw261_1)⟩ (fun hHeld => ?_); refine with_tabW sequencer_Step.tab20 sequencer_Step.bits20 (fun HT_ HW_ => ?_)
               generalize wr.drew = w58 at HO_14 BK241 HB hx260_0 hx260_1 hx261_0 hx261_1 hHeld ⊢
               refine pure_ (i := 0) (N := some 72) (v := ?_) (a' := ?_) #[true, false, false, false, false, false, false, false, false, false, false, false, false, false, false] rfl rfl (any_of HT_.out (by kernel_rfl)) (fun _ _ _ h => h) (Or.inl ⟨by rfl, ?_⟩) ?_ ?_
               rotate_left
               ·
                intro w'
                go_simp
                with_reducible rfl
               rotate_left
               ·
                simp only [Act.put, List.setIfInBounds_toArray, List.set_cons_zero, List.set_cons_succ, i64_w, i32_w]
                rfl
               refine pure_ (i := 1) (N := some 73) (v := ?_) (a' := ?_) #[true, true, false, false, false, false, false, false, false, false, false, false, false, false, false] rfl rfl (any_of HT_.out (by kernel_rfl)) (fun _ _ _ h => h) (Or.inl ⟨by rfl, ?_⟩) ?_ ?_
               rotate_left
               ·
                intro w'
                go_simp
                with_reducible rfl
               rotate_left
               ·
                simp only [Act.put, List.setIfInBounds_toArray, List.set_cons_zero, List.set_cons_succ, i64_w, i32_w]
                rfl
               refine pure_ (i := 2) (N := some 74) (v := ?_) (a' := ?_) #[true, true, true, false, false, false, false, false, false, false, false, false, false, false, false] rfl rfl (any_of HT_.out (by kernel_rfl)) (fun _ _ _ h => h) (Or.inl ⟨by rfl, ?_⟩) ?_ ?_
               rotate_left
               ·
                intro w'
                go_simp
                with_reducible rfl
               rotate_left
               ·
                simp only [Act.put, List.setIfInBounds_toArray, List.set_cons_zero, List.set_cons_succ, i64_w, i32_w]
                rfl
               refine pure_ (i := 3) (N := some 75) (v := ?_) (a' := ?_) #[true, true, true, true, false, false, false, false, false, false, false, false, false, false, false] rfl rfl (any_of HT_.out (by kernel_rfl)) (fun _ _ _ h => h) (Or.inl ⟨by rfl, ?_⟩) ?_ ?_
               rotate_left
               ·
                intro w'
                go_simp
                with_reducible rfl
               rotate_left
               ·
                simp only [Act.put, List.setIfInBounds_toArray, List.set_cons_zero, List.set_cons_succ, i64_w, i32_w]
                rfl
               refine pure_ (i := 4) (N := some 76) (v := ?_) (a' := ?_) #[true, true, true, true, true, false, false, false, false, false, false, false, false, false, false] rfl rfl (any_of HT_.out (by kernel_rfl)) (fun _ _ _ h => h) (Or.inl ⟨by rfl, ?_⟩) ?_ ?_
               rotate_left
               ·
                intro w'
                go_simp
                with_reducible rfl
               rotate_left
               ·
                simp only [Act.put, List.setIfInBounds_toArray, List.set_cons_zero, List.set_cons_succ, i64_w, i32_w]
                rfl
               refine pure_ (i := 7) (N := some 79) (v := ?_) (a' := ?_) #[true, true, true, true, true, false, false, true, false, false, false, false, false, false, false] rfl rfl (any_of HT_.out (by kernel_rfl)) (fun _ _ _ h => h) (Or.inl ⟨by rfl, ?_⟩) ?_ ?_
               rotate_left
               ·
                intro w'
                go_simp
                with_reducible rfl
               rotate_left
               ·
                simp only [Act.put, List.setIfInBounds_toArray, List.set_cons_zero, List.set_cons_succ, i64_w, i32_w]
                rfl
               refine pure_ (i := 8) (N := some 80) (v := ?_) (a' := ?_) #[true, true, true, true, true, false, false, true, true, false, false, false, false, false, false] rfl rfl (any_of HT_.out (by kernel_rfl)) (fun _ _ _ h => h) (Or.inl ⟨by rfl, ?_⟩) ?_ ?_
               rotate_left
               ·
                intro w'
                go_simp
                with_reducible rfl
               rotate_left
               ·
                simp only [Act.put, List.setIfInBounds_toArray, List.set_cons_zero, List.set_cons_succ, i64_w, i32_w]
                rfl
               refine pure_ (i := 9) (N := some 81) (v := ?_) (a' := ?_) #[true, true, true, true, true, false, false, true, true, true, false, false, false, false, false] rfl rfl (any_of HT_.out (by kernel_rfl)) (fun _ _ _ h => h) (Or.inl ⟨by rfl, ?_⟩) ?_ ?_
               rotate_left
               ·
                intro w'
                go_simp
                with_reducible rfl
               rotate_left
               ·
                simp only [Act.put, List.setIfInBounds_toArray, List.set_cons_zero, List.set_cons_succ, i64_w, i32_w]
                rfl
               refine pure_ (i := 12) (N := some 84) (v := ?_) (a' := ?_) #[true, true, true, true, true, false, false, true, true, true, false, false, true, false, false] rfl rfl (any_of HT_.out (by kernel_rfl)) (fun _ _ _ h => h) (Or.inl ⟨by rfl, ?_⟩) ?_ ?_
               rotate_left
               ·
                intro w'
                go_simp
                with_reducible rfl
               rotate_left
               ·
                simp only [Act.put, List.setIfInBounds_toArray, List.set_cons_zero, List.set_cons_succ, i64_w, i32_w]
                rfl
               refine take_ (i := 5) (N := some 77) (v := ?_) (a' := ?_) #[true, true, true, true, true, true, false, true, true, true, false, false, true, false, false] rfl rfl (take_ofW HT_.out HW_.out (by kernel_rfl)) (fun _ _ _ h => h) (Or.inl ⟨by rfl, ?_⟩) hHeld ?_ ?_
               rotate_left
               ·
                rintro w' ⟨s0, s1, s2, s3⟩
                go_simp
                with_reducible rfl
               rotate_left
               ·
                simp only [Act.put, List.setIfInBounds_toArray, List.set_cons_zero, List.set_cons_succ, i64_w, i32_w]
                rfl
               refine pure_ (i := 6) (N := some 78) (v := ?_) (a' := ?_) #[true, true, true, true, true, true, true, true, true, true, false, false, true, false, false] rfl rfl (any_of HT_.out (by kernel_rfl)) (fun _ _ _ h => h) (Or.inl ⟨by rfl, ?_⟩) ?_ ?_
               rotate_left
               ·
                intro w'
                go_simp
                with_reducible rfl
               rotate_left
               ·
                simp only [Act.put, List.setIfInBounds_toArray, List.set_cons_zero, List.set_cons_succ, i64_w, i32_w]
                rfl
               refine take_ (i := 10) (N := some 82) (v := ?_) (a' := ?_) #[true, true, true, true, true, true, true, true, true, true, true, false, true, false, false] rfl rfl (take_ofW HT_.out HW_.out (by kernel_rfl)) (fun _ _ _ h => h) (Or.inl ⟨by rfl, ?_⟩) hHeld ?_ ?_
               rotate_left
               ·
                rintro w' ⟨s0, s1, s2, s3⟩
                go_simp
                with_reducible rfl
               rotate_left
               ·
                simp only [Act.put, List.setIfInBounds_toArray, List.set_cons_zero, List.set_cons_succ, i64_w, i32_w]
                rfl
               refine pure_ (i := 11) (N := some 83) (v := ?_) (a' := ?_) #[true, true, true, true, true, true, true, true, true, true, true, true, true, false, false] rfl rfl (any_of HT_.out (by kernel_rfl)) (fun _ _ _ h => h) (Or.inl ⟨by rfl, ?_⟩) ?_ ?_
               rotate_left
               ·
                intro w'
                go_simp
                with_reducible rfl
               rotate_left
               ·
                simp only [Act.put, List.setIfInBounds_toArray, List.set_cons_zero, List.set_cons_succ, i64_w, i32_w]
                rfl
               refine one_ (i := 13) (N := some 85) #[true, true, true, true, true, true, true, true, true, true, true, true, true, true, false] rfl rfl (one_of HT_.out (by kernel_rfl)) (by decide) (fun K hK => ?_)
               refine goes_ Tryd.func27 (by kernel_rfl) rfl #[.slice A1 l1.length c1, .slice A2 l2.length c2, .bool (((rd_T27 l3 0).f1) == 1), .bool (((rd_T27 l3 1).f1) == 1), .int .i64 a4] (by rfl) rfl rfl aeq ?_
               with_reducible refine (sequencer_steps.calls _ _ l1 _ _ l2 (((rd_T27 l3 0).f1) == 1) (((rd_T27 l3 1).f1) == 1) a4 t262 _ ?side1 ?side2 ?side3 ?side4 A56.out).mono ?_
               (case side1 => repeat (first | exact (Kd.C_below HR1.out HB.out) | (with_reducible refine Kd.C_alloc ?_ _) | (with_reducible refine Kd.C_drewN ?_ _) | (with_reducible refine Kd.C_drew ?_)))
               (case side2 => exact HC1.out)
               (case side3 => repeat (first | exact (Kd.C_below HR2.out HB.out) | (with_reducible refine Kd.C_alloc ?_ _) | (with_reducible refine Kd.C_drewN ?_ _) | (with_reducible refine Kd.C_drew ?_)))
               (case side4 => exact HC2.out)
               rintro e w59 ⟨v263, rfl, ho0, hb⟩
               refine ⟨_, rfl, ?_⟩
               have n0_ := Aside0.mk (Kd.R_below (by (with_reducible repeat (first | apply Kd.R_alloc | apply Kd.R_drewN | apply Kd.R_drew)); exact HO_14.out) hb)
               have n1_ := Aside0.mk (Kd.R_lower ho0 (below_size (by repeat (first | (with_reducible first | exact HB.out | apply below_alloc | apply pw_below_drewN | apply below_drew1 | refine below_set ?_ GE241.out) | exact HB.out))))
               have n2_ := Aside0.mk (blk_below (g := gb241) (o := .cells #[.int .i64 x242000_3, .int .i64 x242001_3] 27 (0, 0)) (by (with_reducible repeat (first | refine blk_drewN ?_ _ | refine blk_drew ?_ | refine blk_alloc ?_ _)); exact BK241.out) hb)
               have n3_ := Aside0.mk (below_step (by repeat (first | (with_reducible first | exact HB.out | apply below_alloc | apply pw_below_drewN | apply below_drew1 | refine below_set ?_ GE241.out) | exact HB.out)) hb)
               clear HO_14
               clear BK241
               clear HB
               have HO_14 := n0_
               have HO264 := n1_
               have BK241 := n2_
               have HB := n3_
               clear n0_ n1_ n2_ n3_
               (try clear hb)
               (try clear hb2)
               (try clear hk)
               (try clear hi)
               (try clear ho0)
               refine hK.out _ _ ⟨((HB.out.cell (World.block_lt_of_cell? w _ hw260_0)).trans hw260_0), ((HB.out.cell (World.block_lt_of_cell? w _ hw260_1)).trans hw260_1), ((HB.out.cell (World.block_lt_of_cell? w _ hw261_0)).trans hw261_0), ((HB.out.cell (World.block_lt_of_cell? w _ hw261_1)).trans hw261_1)⟩ (fun hHeld => ?_)
               clear hK K
               refine norm_ (a' := ?_) ?_ ?_
               rotate_left
               ·
                show Act.put _ (some 85) _ = _
                simp only [Act.put, List.setIfInBounds_toArray, List.set_cons_zero, List.set_cons_succ, i64_w, i32_w]
                rfl
               refine pure_ (i := 14) (N := some 17) (v := ?_) (a' := ?_) #[true, true, true, true, true, true, true, true, true, true, true, true, true, true, true] rfl rfl (any_of HT_.out (by kernel_rfl)) (fun _ _ _ h => h) (Or.inl ⟨by rfl, ?_⟩) ?_ ?_
               rotate_left
               ·
                intro w'
                go_simp
                with_reducible rfl
               rotate_left
               ·
                simp only [Act.put, List.setIfInBounds_toArray, List.set_cons_zero, List.set_cons_succ, i64_w, i32_w]
                rfl
               refine done_ (done_of HT_.out (by kernel_rfl)) ?_
               try go_wp2
               have n0_ := Aside0.mk (Kd.R_drew HO_14.out)
               have n1_ := Aside0.mk (Kd.R_drew HO264.out)
               have n2_ := Aside0.mk (blk_drew BK241.out)
               have n3_ := Aside0.mk (below_drew1 HB.out)
               clear HO_14
               clear HO264
               clear BK241
               clear HB
               have HO_14 := n0_
               have HO264 := n1_
               have BK241 := n2_
               have HB := n3_
               clear n0_ n1_ n2_ n3_
               obtain ⟨Ao61, co61, eo61⟩ := Kd.R_slice HO264.out
               (first | subst eo61 | (injection eo61 with f1_ f2_ f3_; have f4_ := f1_.symm; have f5_ := f3_.symm; clear f1_ f2_ f3_; subst f4_; subst f5_))
               have p265 : 0 ≤ (0 : Int) := (by omega)
               have q265 : 0 < (t262.length : Int) := ode
               obtain ⟨ad265, e265, hx265_0⟩ := Kd.at_int (Kd.R_reads' HO264.out).2.2 0 p265 q265
               cases e265
               have qi265 : (0 < t262.length) = True := eq_true (by omega)
               (try rw [show ((0 : Int)).toNat = 0 from rfl] at hx265_0)
               (try rw [Addr.add_zero'] at hx265_0)
               replace p265 := eq_true p265
               replace q265 := eq_true q265
               refine start_ (n := 9) (S := fun w' => w'.cell? ad265 = some (.int .i64 (rd t262 0))) (ds := []) #[false, false, false, false, false, false, false, false, false] (by kernel_rfl) rfl rfl (hx265_0) (fun hHeld => ?_); refine with_tabW sequencer_Step.tab21 sequencer_Step.bits21 (fun HT_ HW_ => ?_)
               generalize w59.drew = w60 at HO_14 HO264 BK241 HB hx265_0 hHeld ⊢
               refine pure_ (i := 0) (N := some 86) (v := ?_) (a' := ?_) #[true, false, false, false, false, false, false, false, false] rfl rfl (any_of HT_.out (by kernel_rfl)) (fun _ _ _ h => h) (Or.inl ⟨by rfl, ?_⟩) ?_ ?_
               rotate_left
               ·
                intro w'
                go_simp
                with_reducible rfl
               rotate_left
               ·
                simp only [Act.put, List.setIfInBounds_toArray, List.set_cons_zero, List.set_cons_succ, i64_w, i32_w]
                rfl
               refine pure_ (i := 1) (N := some 87) (v := ?_) (a' := ?_) #[true, true, false, false, false, false, false, false, false] rfl rfl (any_of HT_.out (by kernel_rfl)) (fun _ _ _ h => h) (Or.inl ⟨by rfl, ?_⟩) ?_ ?_
               rotate_left
               ·
                intro w'
                go_simp
                with_reducible rfl
               rotate_left
               ·
                simp only [Act.put, List.setIfInBounds_toArray, List.set_cons_zero, List.set_cons_succ, i64_w, i32_w]
                rfl
               refine pure_ (i := 2) (N := some 88) (v := ?_) (a' := ?_) #[true, true, true, false, false, false, false, false, false] rfl rfl (any_of HT_.out (by kernel_rfl)) (fun _ _ _ h => h) (Or.inl ⟨by rfl, ?_⟩) ?_ ?_
               rotate_left
               ·
                intro w'
                go_simp
                with_reducible rfl
               rotate_left
               ·
                simp only [Act.put, List.setIfInBounds_toArray, List.set_cons_zero, List.set_cons_succ, i64_w, i32_w]
                rfl
               refine pure_ (i := 6) (N := some 10) (v := ?_) (a' := ?_) #[true, true, true, false, false, false, true, false, false] rfl rfl (any_of HT_.out (by kernel_rfl)) (fun _ _ _ h => h) (Or.inl ⟨by rfl, ?_⟩) ?_ ?_
               rotate_left
               ·
                intro w'
                go_simp
                with_reducible rfl
               rotate_left
               ·
                simp only [Act.put, List.setIfInBounds_toArray, List.set_cons_zero, List.set_cons_succ, i64_w, i32_w]
                rfl
               refine take_ (i := 3) (N := some 89) (v := ?_) (a' := ?_) #[true, true, true, true, false, false, true, false, false] rfl rfl (take_ofW HT_.out HW_.out (by kernel_rfl)) (fun _ _ _ h => h) (Or.inl ⟨by rfl, ?_⟩) hHeld ?_ ?_
               rotate_left
               ·
                intro w' s0
                go_simp
                with_reducible rfl
               rotate_left
               ·
                simp only [Act.put, List.setIfInBounds_toArray, List.set_cons_zero, List.set_cons_succ, i64_w, i32_w]
                rfl
               refine pure_ (i := 4) (N := some 90) (v := ?_) (a' := ?_) #[true, true, true, true, true, false, true, false, false] rfl rfl (any_of HT_.out (by kernel_rfl)) (fun _ _ _ h => h) (Or.inl ⟨by rfl, ?_⟩) ?_ ?_
               rotate_left
               ·
                intro w'
                go_simp
                with_reducible rfl
               rotate_left
               ·
                simp only [Act.put, List.setIfInBounds_toArray, List.set_cons_zero, List.set_cons_succ, i64_w, i32_w]
                rfl
               refine pure_ (i := 5) (N := some 91) (v := ?_) (a' := ?_) #[true, true, true, true, true, true, true, false, false] rfl rfl (any_of HT_.out (by kernel_rfl)) (fun _ _ _ h => h) (Or.inl ⟨by rfl, ?_⟩) ?_ ?_
               rotate_left
               ·
                intro w'
                go_simp
                with_reducible rfl
               rotate_left
               ·
                simp only [Act.put, List.setIfInBounds_toArray, List.set_cons_zero, List.set_cons_succ, i64_w, i32_w]
                rfl
               refine one_ (i := 7) (N := none) #[true, true, true, true, true, true, true, true, false] rfl rfl (one_of HT_.out (by kernel_rfl)) (by decide) (fun K hK => ?_)
               have hs62 : w60.cell? ⟨gb241, 0, none⟩ = some (.int .i64 x242000_3) := (blk_cell BK241.out 0).trans rfl
               have hfs62 := blk_frozen BK241.out 0
               have hs63 : w60.cell? ⟨gb241, 1, none⟩ = some (.int .i64 x242001_3) := (blk_cell BK241.out 1).trans rfl
               have hfs63 := blk_frozen BK241.out 1
               refine skip_ (w1 := ?_) (by rfl) rfl ?_ ?_
               rotate_left
               ·
                go_simp
                rfl
               refine hK.out _ _ (((cell_far (p := ⟨gb241, _, none⟩) (by first | exact Kd.own_blk (Kd.R_ne HO264.out BK241.out (by decide)) | (rw [add_block]; exact Kd.own_blk (Kd.R_ne HO264.out BK241.out (by decide))) | (show (Addr.add _ _).block ≠ _; rw [add_block]; exact Kd.own_blk (Kd.R_ne HO264.out BK241.out (by decide))) | (dsimp only; exact Kd.own_blk (Kd.R_ne HO264.out BK241.out (by decide)))) _).trans (((cell_far (p := ⟨gb241, _, none⟩) (by first | exact Kd.own_blk (Kd.R_ne HO264.out BK241.out (by decide)) | (rw [add_block]; exact Kd.own_blk (Kd.R_ne HO264.out BK241.out (by decide))) | (show (Addr.add _ _).block ≠ _; rw [add_block]; exact Kd.own_blk (Kd.R_ne HO264.out BK241.out (by decide))) | (dsimp only; exact Kd.own_blk (Kd.R_ne HO264.out BK241.out (by decide)))) _).trans (hHeld))))) (fun hHeld => ?_)
               clear hK K
               refine pure_ (i := 8) (N := some 12) (v := ?_) (a' := ?_) #[true, true, true, true, true, true, true, true, true] rfl rfl (any_of HT_.out (by kernel_rfl)) (fun _ _ _ h => h) (Or.inl ⟨by rfl, ?_⟩) ?_ ?_
               rotate_left
               ·
                intro w'
                go_simp
                with_reducible rfl
               rotate_left
               ·
                simp only [Act.put, List.setIfInBounds_toArray, List.set_cons_zero, List.set_cons_succ, i64_w, i32_w]
                rfl
               refine done_ (done_of HT_.out (by kernel_rfl)) ?_
               try go_wp2
               refine bodyPost_ret (results_list (rs := [.tmp 10, .cell 11 27, .tmp 12]) rfl (by simp) (.tmp (.cell gb241 27 #[.int .i64 3, .int .i64 (wrap64 ((rd t262 0) + 1))] (0, 0) _ rfl (by (with_reducible repeat (first | refine blk_drewN ?_ _ | refine blk_drew ?_ | refine blk_alloc ?_ _)); refine blk_put (cs := #[.int .i64 3, .int .i64 x242001_3]) ?_ 1 _ rfl; (with_reducible repeat (first | refine blk_drewN ?_ _ | refine blk_drew ?_ | refine blk_alloc ?_ _)); refine blk_put (cs := #[.int .i64 x242000_3, .int .i64 x242001_3]) ?_ 0 _ rfl; (with_reducible repeat (first | refine blk_drewN ?_ _ | refine blk_drew ?_ | refine blk_alloc ?_ _)); exact BK241.out) Tryd.underlying27 rfl (by kernel_rfl) (.tmp .nil)))) rfl ?_
               exact ⟨_, by first | rfl | (simp [errW_none, errW_some] <;> rfl) | (simp [*, errW_none, errW_some] <;> rfl), by (with_reducible repeat (first | apply Kd.R_alloc | apply Kd.R_drewN | apply Kd.R_drew)); exact Kd.R_mono (Kd.R_far (p := ⟨gb241, 1, none⟩) (Kd.R_far (p := ⟨gb241, 0, none⟩) (Kd.R_types HO264.out BK241.out (by decide)) (fun _ hk => hk.2) (.int .i64 3)) (fun _ hk => hk.2) (.int .i64 (wrap64 ((rd t262 0) + 1)))) (fun _ hk => trivial), by repeat (first | (with_reducible first | exact HB.out | apply below_alloc | apply pw_below_drewN | apply below_drew1 | refine below_set ?_ GE241.out) | exact HB.out)⟩
              ·
               rw [if_neg c57] at H
               exact absurd H (by simp)
             ·
              rw [if_neg c55] at H
              exact absurd H (by simp)
            ·
             rw [if_neg c54] at H
             exact absurd H (by simp)
          ·
           replace c44 := Bool.eq_false_iff.mpr c44
           subst c44
           rw [if_neg (show ¬ (false = true) by decide)] at H
           simp only [Option.some.injEq, Prod.mk.injEq] at H
           obtain ⟨rfl, rfl, rfl, rfl⟩ := H
           go_wp2_with (first | ((with_reducible refine gate_callee (f := 25) rfl ?_); refine goesL_ (some 59) rfl rfl Tryd.func25 (by kernel_rfl) rfl #[.string a0, .slice A1 l1.length c1, .slice A2 l2.length c2] rfl aeq ?_; (with_reducible refine (sequencer_possible.calls k3 a0 _ _ l1 _ _ l2 false _ ?side1 ?side2 ?side3 ?side4 A43.out).mono ?_); (case side1 => repeat (first | exact (Kd.C_below HR1.out HB.out) | (with_reducible refine Kd.C_alloc ?_ _) | (with_reducible refine Kd.C_drewN ?_ _) | (with_reducible refine Kd.C_drew ?_))); (case side2 => exact HC1.out); (case side3 => repeat (first | exact (Kd.C_below HR2.out HB.out) | (with_reducible refine Kd.C_alloc ?_ _) | (with_reducible refine Kd.C_drewN ?_ _) | (with_reducible refine Kd.C_drew ?_))); (case side4 => exact HC2.out); rintro e w' ⟨rfl, ⟨nd, rfl⟩⟩; refine ⟨_, rfl, ?_⟩; (try (rw [drewN_self wr]; generalize hq_ : World.drewN wr _ = wr; have n0_ : Aside0 (Kd.R (Kd.int .i64) 3 wr w.heap.size (fun _ => True) u14 x14_7) := ⟨by rw [← hq_]; exact (by (with_reducible repeat (first | apply Kd.R_alloc | apply Kd.R_drewN | apply Kd.R_drew)); exact HO_14.out)⟩; have n1_ : Aside0 (wr.heap[gb241]? = some (.cells #[.int .i64 x242000_3, .int .i64 x242001_3] 27 (0, 0))) := ⟨by rw [← hq_]; exact (by (with_reducible repeat (first | refine blk_drewN ?_ _ | refine blk_drew ?_ | refine blk_alloc ?_ _)); exact BK241.out)⟩; have n2_ : Aside0 (Below w.heap.size w wr) := ⟨by rw [← hq_]; exact (by repeat (first | (with_reducible first | exact HB.out | apply below_alloc | apply pw_below_drewN | apply below_drew1 | refine below_set ?_ GE241.out) | exact HB.out))⟩; clear HO_14 BK241 HB hq_; have HO_14 := n0_; have BK241 := n1_; have HB := n2_; clear n0_ n1_ n2_)); have hcz64_0 : wr.cell? ⟨gb241, 0, none⟩ = some (.int .i64 x242000_3) := (blk_cell BK241.out 0).trans rfl; have hcz64_1 : wr.cell? ⟨gb241, 1, none⟩ = some (.int .i64 x242001_3) := (blk_cell BK241.out 1).trans rfl; have hfz64_0 := blk_frozen BK241.out 0; have hfz64_1 := blk_frozen BK241.out 1))
           refine bodyPost_ret (results_list (rs := [.tmp 10, .cell 11 27, .tmp 12]) rfl (by simp) (.tmp (.cell gb241 27 #[.int .i64 0, .int .i64 0] (0, 0) _ rfl (by (with_reducible repeat (first | refine blk_drewN ?_ _ | refine blk_drew ?_ | refine blk_alloc ?_ _)); refine blk_put (cs := #[.int .i64 0, .int .i64 x242001_3]) ?_ 1 _ rfl; (with_reducible repeat (first | refine blk_drewN ?_ _ | refine blk_drew ?_ | refine blk_alloc ?_ _)); refine blk_put (cs := #[.int .i64 x242000_3, .int .i64 x242001_3]) ?_ 0 _ rfl; (with_reducible repeat (first | refine blk_drewN ?_ _ | refine blk_drew ?_ | refine blk_alloc ?_ _)); exact BK241.out) Tryd.underlying27 rfl (by kernel_rfl) (.tmp .nil)))) rfl ?_
           exact ⟨_, by first | rfl | (simp [errW_none, errW_some] <;> rfl) | (simp [*, errW_none, errW_some] <;> rfl), by first | exact Kd.R_nil _ _ _ _ _ | exact Kd.N_nil _ _ _ _ _ | exact Kd.V_nil _ _ _ _ _ | exact Kd.Q_nil _ _ _ _ _ | exact Kd.S_nil _ _ _ _ _, by repeat (first | (with_reducible first | exact HB.out | apply below_alloc | apply pw_below_drewN | apply below_drew1 | refine below_set ?_ GE241.out) | exact HB.out)⟩
 ·
  rw [if_neg c7] at H
  have c7b0 : (t242 == 0) = false := beq_eq_false_iff_ne.mpr c7
  have c7b1 : (t242 != 0) = true := bne_iff_ne.mpr c7
  simp only [Option.some.injEq, Prod.mk.injEq] at H
  obtain ⟨rfl, rfl, rfl, rfl⟩ := H
  go_enter Tryd.func11, Tryd.ntmps11
  go_wp2_with (first | ((with_reducible refine gate_dst (N := 11) rfl ?_); (try (refine gate_guard (by rfl) ?_; dsimp only)); refine box_event ?hg (N := 11) ?hd (cs := #[.int .i64 0, .int .i64 0]) (t := 27) ?hr ?_; (case hd => rfl); (case hg => rfl); (case hr => first | (go_simp; done) | (go_simp; rfl)); intro gb241 hg w65 hbox hb; have n0_ := Aside0.mk (below_step bl hb); have n1_ := Aside0.mk (hbox); have n2_ := Aside0.mk ((by rw [hg]; exact (below_size bl) : w.heap.size ≤ gb241)); have n3_ := Aside0.mk ((by rw [hg]; exact (below_size bl) : w.heap.size ≤ gb241)); clear HB; have HB := n0_; have BK241 := n1_; have GW241 := n2_; have GE241 := n3_; clear n0_ n1_ n2_ n3_; clear hb hbox hg) | ((with_reducible refine gate_callee (f := 14) rfl ?_); refine goesL_ (some 20) rfl rfl Tryd.func14 (by kernel_rfl) rfl #[.string a0, .slice A1 l1.length c1] rfl aeq ?_; (with_reducible refine (sequencer_Check.calls k a0 _ _ l1 t242 _ ?side1 ?side2 ?side3 A6.out).mono ?_); (case side1 => repeat (first | exact (Kd.C_below HR1.out HB.out) | (with_reducible refine Kd.C_alloc ?_ _) | (with_reducible refine Kd.C_drewN ?_ _) | (with_reducible refine Kd.C_drew ?_))); (case side2 => exact HC1.out); (case side3 => exact GW.below HG.out (by repeat (first | (with_reducible first | exact HB.out | apply below_alloc | apply pw_below_drewN | apply below_drew1 | refine below_set ?_ GE241.out) | exact HB.out))); rintro e w66 ⟨rfl, hb⟩; refine ⟨_, rfl, ?_⟩; have n0_ := Aside0.mk (blk_below (g := gb241) (o := .cells #[.int .i64 0, .int .i64 0] 27 (0, 0)) (by (with_reducible repeat (first | refine blk_drewN ?_ _ | refine blk_drew ?_ | refine blk_alloc ?_ _)); exact BK241.out) hb); have n1_ := Aside0.mk (below_step (by repeat (first | (with_reducible first | exact HB.out | apply below_alloc | apply pw_below_drewN | apply below_drew1 | refine below_set ?_ GE241.out) | exact HB.out)) hb); clear BK241; clear HB; have BK241 := n0_; have HB := n1_; clear n0_ n1_; (try clear hb); (try clear hb2); (try clear hk); (try clear hi); have hcz67_0 : w66.cell? ⟨gb241, 0, none⟩ = some (.int .i64 0) := (blk_cell BK241.out 0).trans rfl; have hcz67_1 : w66.cell? ⟨gb241, 1, none⟩ = some (.int .i64 0) := (blk_cell BK241.out 1).trans rfl; have hfz67_0 := blk_frozen BK241.out 0; have hfz67_1 := blk_frozen BK241.out 1))
  refine bodyPost_ret (results_list (rs := [.tmp 10, .cell 11 27, .tmp 12]) rfl (by simp) (.tmp (.cell gb241 27 #[.int .i64 0, .int .i64 0] (0, 0) _ rfl (by (with_reducible repeat (first | refine blk_drewN ?_ _ | refine blk_drew ?_ | refine blk_alloc ?_ _)); refine blk_put (cs := #[.int .i64 0, .int .i64 0]) ?_ 1 _ rfl; (with_reducible repeat (first | refine blk_drewN ?_ _ | refine blk_drew ?_ | refine blk_alloc ?_ _)); refine blk_put (cs := #[.int .i64 0, .int .i64 0]) ?_ 0 _ rfl; (with_reducible repeat (first | refine blk_drewN ?_ _ | refine blk_drew ?_ | refine blk_alloc ?_ _)); exact BK241.out) Tryd.underlying27 rfl (by kernel_rfl) (.tmp .nil)))) rfl ?_
  exact ⟨_, by first | rfl | (simp [errW_none, errW_some] <;> rfl) | (simp [*, errW_none, errW_some] <;> rfl), by first | exact Kd.R_nil _ _ _ _ _ | exact Kd.N_nil _ _ _ _ _ | exact Kd.V_nil _ _ _ _ _ | exact Kd.Q_nil _ _ _ _ _ | exact Kd.S_nil _ _ _ _ _, by repeat (first | (with_reducible first | exact HB.out | apply below_alloc | apply pw_below_drewN | apply below_drew1 | refine below_set ?_ GE241.out) | exact HB.out)⟩

end Go.Proofs.YtcpncmjjbfbdhaaDoor.R
