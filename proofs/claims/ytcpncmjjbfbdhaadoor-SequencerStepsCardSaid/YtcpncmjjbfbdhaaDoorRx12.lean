-- Written by this claim's own program out of the translation; not trusted: Lean checks it.
import Derived.Test.YtcpncmjjbfbdhaaDoorRx0
import Derived.Test.YtcpncmjjbfbdhaaDoorRx11
import Derived.Test.YtcpncmjjbfbdhaaDoorRx14
import Derived.Test.YtcpncmjjbfbdhaaDoorRx15
import Derived.Test.YtcpncmjjbfbdhaaDoorRx18
namespace Go.Proofs.YtcpncmjjbfbdhaaDoor.R
open Go.RowKit Go.Proofs.YtcpncmjjbfbdhaaDoorW.PrintWords Go.Proofs.YtcpncmjjbfbdhaaDoorW.PrintLast Go.Proofs.YtcpncmjjbfbdhaaDoorW.PrintMore
attribute [local go_sem] max2_int min2_int max_two min_two max_three min_three max_four min_four   -- for this text's walks alone
set_option linter.unusedVariables false
set_option linter.unusedSimpArgs false

/-! ### plenumref21_Step: function 12 -/
mutual
def plenumref21_Step.j0 : Nat → ByteArray → List Int → List Int → List (S27) → Int → List Int → Option (List Int × Int × Int × Int)
 | 0, _, _, _, _, _, _ => none
 | k + 1, x0, x1, x2, x3, x4, x14 => (plenumref21_time.f x4).bind fun t640 => (if t640 = true then (plenumref21_Step.j1 k x0 x1 x2 x3 x4 x14 ((x3.length : Int) != (x14.length : Int))) else (plenumref21_Step.j1 k x0 x1 x2 x3 x4 x14 true))
def plenumref21_Step.j1 : Nat → ByteArray → List Int → List Int → List (S27) → Int → List Int → Bool → Option (List Int × Int × Int × Int)
 | 0, _, _, _, _, _, _, _ => none
 | k + 1, x0, x1, x2, x3, x4, x14, x37 => if x37 = true then (some (([] : List Int), 0, 0, 1)) else (plenumref21_Step.l0 k x0 x1 x2 x3 x4 x14 0)
def plenumref21_Step.l0 : Nat → ByteArray → List Int → List Int → List (S27) → Int → List Int → Int → Option (List Int × Int × Int × Int)
 | 0, _, _, _, _, _, _, _ => none
 | k + 1, x0, x1, x2, x3, x4, x14, x15 => if x15 < (x3.length : Int) then (if 0 ≤ x15 then (if x15 < (x14.length : Int) then ((plenumref21_possible.f ((rd_T27 x3 x15).f0) ((rd_T27 x3 x15).f1) (rd x14 x15)).bind fun t643 => (if t643 = true then (plenumref21_Step.l0 k x0 x1 x2 x3 x4 x14 (wrap64 (x15 + 1))) else (some (([] : List Int), 0, 0, 11)))) else (none)) else (none)) else ((plenumref21_State.f k x0 x1 x2).bind fun t644 => (if t644 = true then (if x0.toList = ([115, 116, 97, 103, 101] : List UInt8) then (if 0 < (x3.length : Int) then ((plenumref21_Stage.f k x1 x2 ((rd_T27 x3 0).f1) x4).bind fun t646 => (if 0 < (t646.length : Int) then (some (t646, 3, wrap64 ((rd t646 0) + 1), 0)) else (none))) else (none)) else (if 0 < (x3.length : Int) then (if 1 < (x3.length : Int) then ((plenumref21_Steps.f x1 x2 (((rd_T27 x3 0).f1) == 1) (((rd_T27 x3 1).f1) == 1) x4).bind fun t652 => (if 0 < (t652.length : Int) then (some (t652, 3, wrap64 ((rd t652 0) + 1), 0)) else (none))) else (none)) else (none))) else (some (([] : List Int), 0, 0, 8))))
end
def plenumref21_Step.f (k : Nat) (a0 : ByteArray) (l1 : List Int) (l2 : List Int) (l3 : List (S27)) (a4 : Int) : Option (List Int × Int × Int × Int) := (plenumref21_Check.f k a0 l1).bind fun t633 => (if t633 = 0 then (if a0.toList = ([115, 116, 97, 103, 101] : List UInt8) then (plenumref21_Step.j0 k a0 l1 l2 l3 a4 (([1] : List Int))) else (plenumref21_Step.j0 k a0 l1 l2 l3 a4 (([2, 2] : List Int)))) else (some (([] : List Int), 0, 0, t633)))
theorem plenumref21_Step.mono_l : ∀ k, (∀ y0 y1 y2 y3 y4 y5, LeO (plenumref21_Step.j0 k y0 y1 y2 y3 y4 y5) (plenumref21_Step.j0 (k + 1) y0 y1 y2 y3 y4 y5)) ∧ (∀ y0 y1 y2 y3 y4 y5 y6, LeO (plenumref21_Step.j1 k y0 y1 y2 y3 y4 y5 y6) (plenumref21_Step.j1 (k + 1) y0 y1 y2 y3 y4 y5 y6)) ∧ (∀ y0 y1 y2 y3 y4 y5 y6, LeO (plenumref21_Step.l0 k y0 y1 y2 y3 y4 y5 y6) (plenumref21_Step.l0 (k + 1) y0 y1 y2 y3 y4 y5 y6))
 | 0 => ⟨fun _ _ _ _ _ _ r h => by simp [plenumref21_Step.j0] at h, fun _ _ _ _ _ _ _ r h => by simp [plenumref21_Step.j1] at h, fun _ _ _ _ _ _ _ r h => by simp [plenumref21_Step.l0] at h⟩
 | k + 1 => by
  obtain ⟨ih0, ih1, ih2⟩ := plenumref21_Step.mono_l k
  refine ⟨?_, ?_, ?_⟩
  ·
   intro y0 y1 y2 y3 y4 y5
   unfold plenumref21_Step.j0
   repeat' first
   | (with_reducible exact ih0 _ _ _ _ _ _)
   | (with_reducible exact ih1 _ _ _ _ _ _ _)
   | (with_reducible exact ih2 _ _ _ _ _ _ _)
   | (with_reducible exact plenumref21_Check.mono _ _ _)
   | (with_reducible exact plenumref21_Stage.mono _ _ _ _ _)
   | (with_reducible exact plenumref21_State.mono _ _ _ _)
   | (with_reducible exact LeO.refl _)
   | (with_reducible exact LeO.none _)
   | (with_reducible refine LeO.ite ?_ ?_)
   | (with_reducible refine LeO.bind ?_ (fun _ => ?_))
   | exact ih0 _ _ _ _ _ _
   | exact ih1 _ _ _ _ _ _ _
   | exact ih2 _ _ _ _ _ _ _
   | exact plenumref21_Check.mono _ _ _
   | exact plenumref21_Stage.mono _ _ _ _ _
   | exact plenumref21_State.mono _ _ _ _
   | exact LeO.none _
   | refine LeO.ite ?_ ?_
   | refine LeO.bind ?_ (fun _ => ?_)
  ·
   intro y0 y1 y2 y3 y4 y5 y6
   unfold plenumref21_Step.j1
   repeat' first
   | (with_reducible exact ih0 _ _ _ _ _ _)
   | (with_reducible exact ih1 _ _ _ _ _ _ _)
   | (with_reducible exact ih2 _ _ _ _ _ _ _)
   | (with_reducible exact plenumref21_Check.mono _ _ _)
   | (with_reducible exact plenumref21_Stage.mono _ _ _ _ _)
   | (with_reducible exact plenumref21_State.mono _ _ _ _)
   | (with_reducible exact LeO.refl _)
   | (with_reducible exact LeO.none _)
   | (with_reducible refine LeO.ite ?_ ?_)
   | (with_reducible refine LeO.bind ?_ (fun _ => ?_))
   | exact ih0 _ _ _ _ _ _
   | exact ih1 _ _ _ _ _ _ _
   | exact ih2 _ _ _ _ _ _ _
   | exact plenumref21_Check.mono _ _ _
   | exact plenumref21_Stage.mono _ _ _ _ _
   | exact plenumref21_State.mono _ _ _ _
   | exact LeO.none _
   | refine LeO.ite ?_ ?_
   | refine LeO.bind ?_ (fun _ => ?_)
  ·
   intro y0 y1 y2 y3 y4 y5 y6
   unfold plenumref21_Step.l0
   repeat' first
   | (with_reducible exact ih0 _ _ _ _ _ _)
   | (with_reducible exact ih1 _ _ _ _ _ _ _)
   | (with_reducible exact ih2 _ _ _ _ _ _ _)
   | (with_reducible exact plenumref21_Check.mono _ _ _)
   | (with_reducible exact plenumref21_Stage.mono _ _ _ _ _)
   | (with_reducible exact plenumref21_State.mono _ _ _ _)
   | (with_reducible exact LeO.refl _)
   | (with_reducible exact LeO.none _)
   | (with_reducible refine LeO.ite ?_ ?_)
   | (with_reducible refine LeO.bind ?_ (fun _ => ?_))
   | exact ih0 _ _ _ _ _ _
   | exact ih1 _ _ _ _ _ _ _
   | exact ih2 _ _ _ _ _ _ _
   | exact plenumref21_Check.mono _ _ _
   | exact plenumref21_Stage.mono _ _ _ _ _
   | exact plenumref21_State.mono _ _ _ _
   | exact LeO.none _
   | refine LeO.ite ?_ ?_
   | refine LeO.bind ?_ (fun _ => ?_)
theorem plenumref21_Step.mono : ∀ a0 a1 a2 a3 a4 k, LeO (plenumref21_Step.f k a0 a1 a2 a3 a4) (plenumref21_Step.f (k + 1) a0 a1 a2 a3 a4) := by
 intro a0 a1 a2 a3 a4 k
 obtain ⟨ih0, ih1, ih2⟩ := plenumref21_Step.mono_l k
 unfold plenumref21_Step.f
 repeat' first
   | (with_reducible exact ih0 _ _ _ _ _ _)
   | (with_reducible exact ih1 _ _ _ _ _ _ _)
   | (with_reducible exact ih2 _ _ _ _ _ _ _)
   | (with_reducible exact plenumref21_Check.mono _ _ _)
   | (with_reducible exact plenumref21_Stage.mono _ _ _ _ _)
   | (with_reducible exact plenumref21_State.mono _ _ _ _)
   | (with_reducible exact LeO.refl _)
   | (with_reducible exact LeO.none _)
   | (with_reducible refine LeO.ite ?_ ?_)
   | (with_reducible refine LeO.bind ?_ (fun _ => ?_))
   | exact ih0 _ _ _ _ _ _
   | exact ih1 _ _ _ _ _ _ _
   | exact ih2 _ _ _ _ _ _ _
   | exact plenumref21_Check.mono _ _ _
   | exact plenumref21_Stage.mono _ _ _ _ _
   | exact plenumref21_State.mono _ _ _ _
   | exact LeO.none _
   | refine LeO.ite ?_ ?_
   | refine LeO.bind ?_ (fun _ => ?_)
def plenumref21_Step.T12 : Bool × List (List Nat × List Nat) := (true, [([], []), ([], []), ([0, 1], [0, 1]), ([2], [2]), ([], []), ([], []), ([4, 5], [4, 5]), ([6], [6]), ([3, 7], [3, 7]), ([8], [8])])
def plenumref21_Step.B12 : List Nat := [0, 0, 3, 7, 0, 0, 48, 112, 255, 511]
theorem plenumref21_Step.tab12 : rtab .any (opsOf Tryd.f12 12) = plenumref21_Step.T12 := by kernel_rfl
theorem plenumref21_Step.bits12 : waitsOk plenumref21_Step.T12.2 plenumref21_Step.B12 = true := by kernel_rfl
def plenumref21_Step.T19 : Bool × List (List Nat × List Nat) := (true, [([], []), ([], []), ([], []), ([2], [2]), ([3], [3]), ([4], [4]), ([5], [5]), ([], []), ([7], [7]), ([8], [8]), ([9], [9]), ([10], [10]), ([], []), ([0, 1, 6, 11, 12], [0, 1, 6, 11, 12]), ([13, 13, 0, 1, 2, 3, 4, 5, 6, 7, 8, 9, 10, 11, 12, 13], [13])])
def plenumref21_Step.B19 : List Nat := [0, 0, 0, 4, 12, 28, 60, 0, 128, 384, 896, 1920, 0, 8191, 16383]
theorem plenumref21_Step.tab19 : rtab .any (opsOf Tryd.f12 19) = plenumref21_Step.T19 := by kernel_rfl
theorem plenumref21_Step.bits19 : waitsOk plenumref21_Step.T19.2 plenumref21_Step.B19 = true := by kernel_rfl
def plenumref21_Step.T20 : Bool × List (List Nat × List Nat) := (true, [([], []), ([], []), ([1], [1]), ([2], [2]), ([3], [3]), ([4], [4]), ([0, 0], [0]), ([5, 6, 0, 1, 2, 3, 4, 5, 6], [5]), ([7, 0, 1, 2, 3, 4, 5, 6, 7], [])])
def plenumref21_Step.B20 : List Nat := [0, 0, 2, 6, 14, 30, 1, 127, 255]
theorem plenumref21_Step.tab20 : rtab .any (opsOf Tryd.f12 20) = plenumref21_Step.T20 := by kernel_rfl
theorem plenumref21_Step.bits20 : waitsOk plenumref21_Step.T20.2 plenumref21_Step.B20 = true := by kernel_rfl
set_option maxHeartbeats 8000000 in
set_option maxRecDepth 100000 in
theorem plenumref21_Step.calls (k : Nat) (a0 : ByteArray) (A1 : Option Addr) (c1 : Nat) (l1 : List Int) (A2 : Option Addr) (c2 : Nat) (l2 : List Int) (A3 : Option Addr) (c3 : Nat) (l3 : List (S27)) (a4 : Int) (r1 : List Int) (r2 : Int) (r3 : Int) (r4 : Int) (w : World) (hr1 : Kd.C (Kd.int .i64) w A1 l1.length l1) (hc1 : l1.length ≤ c1) (hr2 : Kd.C (Kd.int .i64) w A2 l2.length l2) (hc2 : l2.length ≤ c2) (hr3 : Kd.C k27 w A3 l3.length l3) (hc3 : l3.length ≤ c3) (h : plenumref21_Step.f k a0 l1 l2 l3 a4 = some (r1, r2, r3, r4)) :
  Calls Tryd.prog 12 #[.string a0, .slice A1 l1.length c1, .slice A2 l2.length c2, .slice A3 l3.length c3, .int .i64 a4] w fun e w' => ∃ v0_ : Value, e = .returned (.tuple #[v0_, .agg #[.int .i64 r2, .int .i64 r3], .int .i64 r4]) ∧ Kd.R (Kd.int .i64) 2 w' w.heap.size (fun _ => True) v0_ r1 ∧ Below w.heap.size w w' := by
 have hu27 := Tryd.underlying27
 have HR1 := Aside0.mk hr1
 have HC1 := Aside0.mk hc1
 clear hr1 hc1
 have HR2 := Aside0.mk hr2
 have HC2 := Aside0.mk hc2
 clear hr2 hc2
 have HR3 := Aside0.mk hr3
 have HC3 := Aside0.mk hc3
 clear hr3 hc3
 have HB := Aside0.mk (Below.refl w.heap.size w)
 have H : ((plenumref21_Check.f k a0 l1).bind fun t633 => (if t633 = 0 then (if a0.toList = ([115, 116, 97, 103, 101] : List UInt8) then (plenumref21_Step.j0 k a0 l1 l2 l3 a4 (([1] : List Int))) else (plenumref21_Step.j0 k a0 l1 l2 l3 a4 (([2, 2] : List Int)))) else (some (([] : List Int), 0, 0, t633)))) = some (r1, r2, r3, r4) := h
 clear h
 replace H := Option.bind_eq_some_iff.mp H
 obtain ⟨t633, A60, H⟩ := H
 replace H : (if t633 = 0 then (if a0.toList = ([115, 116, 97, 103, 101] : List UInt8) then (plenumref21_Step.j0 k a0 l1 l2 l3 a4 (([1] : List Int))) else (plenumref21_Step.j0 k a0 l1 l2 l3 a4 (([2, 2] : List Int)))) else (some (([] : List Int), 0, 0, t633))) = some (r1, r2, r3, r4) := H
 have A6 := Aside0.mk A60
 clear A60
 by_cases c7 : t633 = 0
 ·
  rw [if_pos c7] at H
  have c7b0 : (t633 == 0) = true := beq_iff_eq.mpr c7
  have c7b1 : (t633 != 0) = false := bne_eq_false_iff_eq.mpr c7
  clear c7
  obtain ⟨y634, hy634⟩ : ∃ y_ : List Int, y_ = (([2, 2] : List Int)) := ⟨_, rfl⟩
  replace H : (if a0.toList = ([115, 116, 97, 103, 101] : List UInt8) then (plenumref21_Step.j0 k a0 l1 l2 l3 a4 (([1] : List Int))) else (plenumref21_Step.j0 k a0 l1 l2 l3 a4 y634)) = some (r1, r2, r3, r4) := by first | (rw [hy634]; with_reducible exact H) | (have H2_ := (Option.bind_some _ _).symm.trans H; rw [hy634]; with_reducible exact H2_) | (have H2_ := (Option.bind_some _ _).symm.trans H; with_reducible exact H2_) | with_reducible exact H | (rw [hy634]; exact H) | exact H
  have Ny634 := Aside0.mk hy634
  clear hy634
  have HC8 := Aside0.mk H
  clear H
  go_enter Tryd.func12, Tryd.ntmps12
  go_upto_if 26 with (first | ((with_reducible refine gate_dst (N := 11) rfl ?_); (try (refine gate_guard (by rfl) ?_; dsimp only)); refine box_event ?hg (N := 11) ?hd (cs := #[.int .i64 0, .int .i64 0]) (t := 27) ?hr ?_; (case hd => rfl); (case hg => rfl); (case hr => first | (go_simp; done) | (go_simp; rfl)); intro gb632 hg w9 hbox hb; have n0_ := Aside0.mk (below_step bl hb); have n1_ := Aside0.mk (hbox); have n2_ := Aside0.mk ((by rw [hg]; exact (below_size bl) : w.heap.size ≤ gb632)); have n3_ := Aside0.mk ((by rw [hg]; exact (below_size bl) : w.heap.size ≤ gb632)); clear HB; have HB := n0_; have BK632 := n1_; have GW632 := n2_; have GE632 := n3_; clear n0_ n1_ n2_ n3_; clear hb hbox hg) | ((with_reducible refine gate_callee (f := 15) rfl ?_); refine goesL_ (some 19) rfl rfl Tryd.func15 (by kernel_rfl) rfl #[.string a0, .slice A1 l1.length c1] rfl aeq ?_; (with_reducible refine (plenumref21_Check.calls k a0 _ _ l1 t633 _ ?side1 ?side2 A6.out).mono ?_); (case side1 => repeat (first | exact (Kd.C_below HR1.out HB.out) | (with_reducible refine Kd.C_alloc ?_ _) | (with_reducible refine Kd.C_drewN ?_ _) | (with_reducible refine Kd.C_drew ?_))); (case side2 => exact HC1.out); rintro e w10 ⟨rfl, hb⟩; refine ⟨_, rfl, ?_⟩; have n0_ := Aside0.mk (blk_below (g := gb632) (o := .cells #[.int .i64 0, .int .i64 0] 27 (0, 0)) (by (with_reducible repeat (first | refine blk_drewN ?_ _ | refine blk_drew ?_ | refine blk_alloc ?_ _)); exact BK632.out) hb); have n1_ := Aside0.mk (below_step (by repeat (first | (with_reducible first | exact HB.out | apply below_alloc | apply pw_below_drewN | apply below_drew1 | refine below_set ?_ GE632.out) | exact HB.out)) hb); clear BK632; clear HB; have BK632 := n0_; have HB := n1_; clear n0_ n1_; (try clear hb); (try clear hb2); (try clear hk); (try clear hi)) | ((with_reducible refine gate_dst (N := 24) rfl ?_); (try (refine gate_guard (by rfl) ?_; dsimp only)); refine Kd.R_lit (Kd.int .i64) _ 3 ?hg (N := 24) ?hd (xs := ([2, 2] : List Int)) (inner := [.int .i64 2, .int .i64 2]) (ok := fun _ => True) (okp := fun _ => True) ?hr ?hp (fun _ hk => hk) trivial (Below.refl _ _) (Nat.le_refl _) (by simp) ?_; (case hd => rfl); (case hg => rfl); (case hr => first | (go_simp; done) | (go_simp; rfl)); (case hp => exact (Reps.one (show Kd.M (Kd.int .i64) _ _ _ 2 [.int .i64 2] from rfl) (Reps.one (show Kd.M (Kd.int .i64) _ _ _ 2 [.int .i64 2] from rfl) (Reps.none _ _)))); intro v635 w11 ho12 hb hg_ hnew_; clear hg_ hnew_; (first | rw [← Ny634.out] at ho12 | (simp only [Int.reduceToNat] at ho12; rw [← Ny634.out] at ho12)); have n0_ := Aside0.mk (Kd.R_lower ho12 (below_size (by repeat (first | (with_reducible first | exact HB.out | apply below_alloc | apply pw_below_drewN | apply below_drew1 | refine below_set ?_ GE632.out) | exact HB.out)))); have n1_ := Aside0.mk (blk_below (g := gb632) (o := .cells #[.int .i64 0, .int .i64 0] 27 (0, 0)) (by (with_reducible repeat (first | refine blk_drewN ?_ _ | refine blk_drew ?_ | refine blk_alloc ?_ _)); exact BK632.out) hb); have n2_ := Aside0.mk (below_step (by repeat (first | (with_reducible first | exact HB.out | apply below_alloc | apply pw_below_drewN | apply below_drew1 | refine below_set ?_ GE632.out) | exact HB.out)) hb); clear BK632; clear HB; have HO636 := n0_; have BK632 := n1_; have HB := n2_; clear n0_ n1_ n2_; clear hb ho12))
  (try simp only [Act.put, List.setIfInBounds_toArray, List.set_cons_zero, List.set_cons_succ])
  go_cut [14] (fun v14 wc => ∃ (kq : Nat) (x14_7 : List Int), Aside0 (plenumref21_Step.j0 kq a0 l1 l2 l3 a4 x14_7 = some (r1, r2, r3, r4)) ∧ Aside0 (kq ≤ k) ∧ Aside0 (Kd.R (Kd.int .i64) 3 wc w.heap.size (fun _ => True) v14 x14_7) ∧ Aside0 (wc.heap[gb632]? = some (.cells #[.int .i64 0, .int .i64 0] 27 (0, 0))) ∧ Aside0 (Below w.heap.size w wc))
  case first =>
   have H := HC8.out
   clear HC8
   by_cases c13 : a0.toList = ([115, 116, 97, 103, 101] : List UInt8)
   ·
    rw [if_pos c13] at H
    have c13b0 : (a0.toList == ([115, 116, 97, 103, 101] : List UInt8)) = true := beq_iff_eq.mpr c13
    have c13b1 : (a0.toList != ([115, 116, 97, 103, 101] : List UInt8)) = false := bne_eq_false_iff_eq.mpr c13
    clear c13
    (first | rw [c13b0] | (simp only [i64_w, i32_w]; rw [c13b0]) | skip)
    obtain ⟨y637, hy637⟩ : ∃ y_ : List Int, y_ = (([1] : List Int)) := ⟨_, rfl⟩
    replace H : (plenumref21_Step.j0 k a0 l1 l2 l3 a4 y637) = some (r1, r2, r3, r4) := by first | (rw [hy637]; with_reducible exact H) | (have H2_ := (Option.bind_some _ _).symm.trans H; rw [hy637]; with_reducible exact H2_) | (have H2_ := (Option.bind_some _ _).symm.trans H; with_reducible exact H2_) | with_reducible exact H | (rw [hy637]; exact H) | exact H
    have Ny637 := Aside0.mk hy637
    clear hy637
    have H' := Aside0.mk H
    clear H
    go_wp2_with (first | ((with_reducible refine gate_dst (N := 27) rfl ?_); (try (refine gate_guard (by rfl) ?_; dsimp only)); refine Kd.R_lit (Kd.int .i64) _ 3 ?hg (N := 27) ?hd (xs := ([1] : List Int)) (inner := [.int .i64 1]) (ok := fun _ => True) (okp := fun _ => True) ?hr ?hp (fun _ hk => hk) trivial (Below.refl _ _) (Nat.le_refl _) (by simp) ?_; (case hd => rfl); (case hg => rfl); (case hr => first | (go_simp; done) | (go_simp; rfl)); (case hp => exact (Reps.one (show Kd.M (Kd.int .i64) _ _ _ 1 [.int .i64 1] from rfl) (Reps.none _ _))); intro v638 w14 ho15 hb hg_ hnew_; clear hg_ hnew_; (first | rw [← Ny637.out] at ho15 | (simp only [Int.reduceToNat] at ho15; rw [← Ny637.out] at ho15)); have n0_ := Aside0.mk (Kd.R_elder' (by (with_reducible repeat (first | apply Kd.R_alloc | apply Kd.R_drewN | apply Kd.R_drew)); exact HO636.out) (Kd.R_base ho15) hb); have n1_ := Aside0.mk (Kd.R_lower (Kd.R_new' ho15 (Kd.R_lt (by (with_reducible repeat (first | apply Kd.R_alloc | apply Kd.R_drewN | apply Kd.R_drew)); exact HO636.out))) (below_size (by repeat (first | (with_reducible first | exact HB.out | apply below_alloc | apply pw_below_drewN | apply below_drew1 | refine below_set ?_ GE632.out) | exact HB.out)))); have n2_ := Aside0.mk (blk_below (g := gb632) (o := .cells #[.int .i64 0, .int .i64 0] 27 (0, 0)) (by (with_reducible repeat (first | refine blk_drewN ?_ _ | refine blk_drew ?_ | refine blk_alloc ?_ _)); exact BK632.out) hb); have n3_ := Aside0.mk (below_step (by repeat (first | (with_reducible first | exact HB.out | apply below_alloc | apply pw_below_drewN | apply below_drew1 | refine below_set ?_ GE632.out) | exact HB.out)) hb); clear HO636; clear BK632; clear HB; have HO636 := n0_; have HO639 := n1_; have BK632 := n2_; have HB := n3_; clear n0_ n1_ n2_ n3_; clear hb ho15))
    go_meet
    case rel => exact ⟨_, (y637), H', ⟨by first | omega | exact Nat.le_refl _⟩, ⟨by (with_reducible repeat (first | apply Kd.R_alloc | apply Kd.R_drewN | apply Kd.R_drew)); exact Kd.R_mono HO639.out (fun _ hk => trivial)⟩, ⟨by (with_reducible repeat (first | refine blk_drewN ?_ _ | refine blk_drew ?_ | refine blk_alloc ?_ _)); exact BK632.out⟩, ⟨by repeat (first | (with_reducible first | exact HB.out | apply below_alloc | apply pw_below_drewN | apply below_drew1 | refine below_set ?_ GE632.out) | exact HB.out)⟩⟩
   ·
    rw [if_neg c13] at H
    have c13b0 : (a0.toList == ([115, 116, 97, 103, 101] : List UInt8)) = false := beq_eq_false_iff_ne.mpr c13
    have c13b1 : (a0.toList != ([115, 116, 97, 103, 101] : List UInt8)) = true := bne_iff_ne.mpr c13
    (first | rw [c13b0] | (simp only [i64_w, i32_w]; rw [c13b0]) | skip)
    have H' := Aside0.mk H
    clear H
    go_wp2
    go_meet
    case rel => exact ⟨_, (y634), H', ⟨by first | omega | exact Nat.le_refl _⟩, ⟨by (with_reducible repeat (first | apply Kd.R_alloc | apply Kd.R_drewN | apply Kd.R_drew)); exact HO636.out⟩, ⟨by (with_reducible repeat (first | refine blk_drewN ?_ _ | refine blk_drew ?_ | refine blk_alloc ?_ _)); exact BK632.out⟩, ⟨by repeat (first | (with_reducible first | exact HB.out | apply below_alloc | apply pw_below_drewN | apply below_drew1 | refine below_set ?_ GE632.out) | exact HB.out)⟩⟩
  case rest =>
   clear HC8
   try clear c1
   try clear c2
   try clear p2
   try clear c3
   try clear c7
   try clear c7b0
   try clear c7b1
   try clear c12
   try clear c13
   try clear c13b0
   try clear c13b1
   try clear c15
   obtain ⟨kq, x14_7, HA, HJ7, HO_14, BK632, HB⟩ := hcut
   cases kq with
   | zero => exact absurd HA.out (by simp [plenumref21_Step.j0])
   | succ kj7 =>
    have H := HA.out
    clear HA
    simp only [plenumref21_Step.j0] at H
    have HC16 := Aside0.mk H
    clear H
    go_upto_region 7 with (fail)
    go_cut [37] (fun v37 wc => ∃ (kq : Nat) (x37_15 : Bool), v37 = .bool x37_15 ∧ Aside0 (plenumref21_Step.j1 kq a0 l1 l2 l3 a4 x14_7 x37_15 = some (r1, r2, r3, r4)) ∧ Aside0 (kq ≤ kj7) ∧ Aside0 (Kd.R (Kd.int .i64) 3 wc w.heap.size (fun _ => True) u14 x14_7) ∧ Aside0 (wc.heap[gb632]? = some (.cells #[.int .i64 0, .int .i64 0] 27 (0, 0))) ∧ Aside0 (Below w.heap.size w wc))
    case first =>
     have H := HC16.out
     clear HC16
     replace H := Option.bind_eq_some_iff.mp H
     obtain ⟨t640, A170, H⟩ := H
     replace H : (if t640 = true then (plenumref21_Step.j1 kj7 a0 l1 l2 l3 a4 x14_7 ((l3.length : Int) != (x14_7.length : Int))) else (plenumref21_Step.j1 kj7 a0 l1 l2 l3 a4 x14_7 true)) = some (r1, r2, r3, r4) := H
     have A17 := Aside0.mk A170
     clear A170
     by_cases c18 : t640 = true
     ·
      subst c18
      rw [if_pos rfl] at H
      have H' := Aside0.mk H
      clear H
      go_wp2_with (first | ((with_reducible refine gate_callee (f := 28) rfl ?_); refine goesL_ (some 29) rfl rfl Tryd.func28 (by kernel_rfl) rfl #[.int .i64 a4] rfl aeq ?_; (with_reducible refine (plenumref21_time.calls a4 true _ A17.out).mono ?_); rintro e w' ⟨rfl, ⟨nd, rfl⟩⟩; refine ⟨_, rfl, ?_⟩; obtain ⟨Ao19, co19, eo19⟩ := Kd.R_slice HO_14.out; subst eo19))
      go_meet
      case rel => exact ⟨_, (((l3.length : Int) != (x14_7.length : Int))), (by first | rfl | (simp; done) | (simp [*]; done)), H', ⟨by have := HJ7.out; first | omega | exact Nat.le_refl _⟩, ⟨by (with_reducible repeat (first | apply Kd.R_alloc | apply Kd.R_drewN | apply Kd.R_drew)); exact HO_14.out⟩, ⟨by (with_reducible repeat (first | refine blk_drewN ?_ _ | refine blk_drew ?_ | refine blk_alloc ?_ _)); exact BK632.out⟩, ⟨by repeat (first | (with_reducible first | exact HB.out | apply below_alloc | apply pw_below_drewN | apply below_drew1 | refine below_set ?_ GE632.out) | exact HB.out)⟩⟩
     ·
      replace c18 := Bool.eq_false_iff.mpr c18
      subst c18
      rw [if_neg (show ¬ (false = true) by decide)] at H
      have H' := Aside0.mk H
      clear H
      go_wp2_with (first | ((with_reducible refine gate_callee (f := 28) rfl ?_); refine goesL_ (some 29) rfl rfl Tryd.func28 (by kernel_rfl) rfl #[.int .i64 a4] rfl aeq ?_; (with_reducible refine (plenumref21_time.calls a4 false _ A17.out).mono ?_); rintro e w' ⟨rfl, ⟨nd, rfl⟩⟩; refine ⟨_, rfl, ?_⟩))
      go_meet
      case rel => exact ⟨_, (true), (by first | rfl | (simp; done) | (simp [*]; done)), H', ⟨by have := HJ7.out; first | omega | exact Nat.le_refl _⟩, ⟨by (with_reducible repeat (first | apply Kd.R_alloc | apply Kd.R_drewN | apply Kd.R_drew)); exact HO_14.out⟩, ⟨by (with_reducible repeat (first | refine blk_drewN ?_ _ | refine blk_drew ?_ | refine blk_alloc ?_ _)); exact BK632.out⟩, ⟨by repeat (first | (with_reducible first | exact HB.out | apply below_alloc | apply pw_below_drewN | apply below_drew1 | refine below_set ?_ GE632.out) | exact HB.out)⟩⟩
    case rest =>
     clear HC16
     try clear c1
     try clear c2
     try clear p2
     try clear c3
     try clear c7
     try clear c7b0
     try clear c7b1
     try clear c12
     try clear c13
     try clear c13b0
     try clear c13b1
     try clear c15
     try clear c18
     try clear p2
     obtain ⟨kq, x37_15, rfl, HA, HJ15, HO_14, BK632, HB⟩ := hcut
     cases kq with
     | zero => exact absurd HA.out (by simp [plenumref21_Step.j1])
     | succ kj15 =>
      have H := HA.out
      clear HA
      simp only [plenumref21_Step.j1] at H
      by_cases c20 : x37_15 = true
      ·
       subst c20
       rw [if_pos rfl] at H
       simp only [Option.some.injEq, Prod.mk.injEq] at H
       obtain ⟨rfl, rfl, rfl, rfl⟩ := H
       have hcz21_0 : wc.cell? ⟨gb632, 0, none⟩ = some (.int .i64 0) := (blk_cell BK632.out 0).trans rfl
       have hcz21_1 : wc.cell? ⟨gb632, 1, none⟩ = some (.int .i64 0) := (blk_cell BK632.out 1).trans rfl
       have hfz21_0 := blk_frozen BK632.out 0
       have hfz21_1 := blk_frozen BK632.out 1
       go_wp2
       refine bodyPost_ret (results_list (rs := [.tmp 10, .cell 11 27, .tmp 12]) rfl (by simp) (.tmp (.cell gb632 27 #[.int .i64 0, .int .i64 0] (0, 0) _ rfl (by (with_reducible repeat (first | refine blk_drewN ?_ _ | refine blk_drew ?_ | refine blk_alloc ?_ _)); refine blk_put (cs := #[.int .i64 0, .int .i64 0]) ?_ 1 _ rfl; (with_reducible repeat (first | refine blk_drewN ?_ _ | refine blk_drew ?_ | refine blk_alloc ?_ _)); refine blk_put (cs := #[.int .i64 0, .int .i64 0]) ?_ 0 _ rfl; (with_reducible repeat (first | refine blk_drewN ?_ _ | refine blk_drew ?_ | refine blk_alloc ?_ _)); exact BK632.out) Tryd.underlying27 rfl (by kernel_rfl) (.tmp .nil)))) rfl ?_
       exact ⟨_, by first | rfl | (simp [errW_none, errW_some] <;> rfl) | (simp [*, errW_none, errW_some] <;> rfl), by first | exact Kd.R_nil _ _ _ _ _ | exact Kd.R_nil _ _ _ 0 _ | exact Kd.N_nil _ _ _ _ _ | exact Kd.V_nil _ _ _ _ _ | exact Kd.Q_nil _ _ _ _ _ | exact Kd.S_nil _ _ _ _ _, by repeat (first | (with_reducible first | exact HB.out | apply below_alloc | apply pw_below_drewN | apply below_drew1 | refine below_set ?_ GE632.out) | exact HB.out)⟩
      ·
       replace c20 := Bool.eq_false_iff.mpr c20
       subst c20
       rw [if_neg (show ¬ (false = true) by decide)] at H
       have H' := Aside0.mk H
       clear H
       go_wp2
       go_loopg [15] kj15 (fun kq v15 w' => ∃ (x15_3 : Int) (x633000_3 : Int) (x633001_3 : Int), v15 = .int .i64 x15_3 ∧ Aside0 (plenumref21_Step.l0 kq a0 l1 l2 l3 a4 x14_7 x15_3 = some (r1, r2, r3, r4)) ∧ Aside0 (kq ≤ kj15) ∧ Aside0 (Kd.R (Kd.int .i64) 3 w' w.heap.size (fun _ => True) u14 x14_7) ∧ Aside0 (w'.heap[gb632]? = some (.cells #[.int .i64 x633000_3, .int .i64 x633001_3] 27 (0, 0))) ∧ Aside0 (Below w.heap.size w w'))
       case atStart => exact ⟨(0), (0), (0), (by first | rfl | (simp; done) | (simp [*]; done)), H', ⟨Nat.le_refl _⟩, ⟨by (with_reducible repeat (first | apply Kd.R_alloc | apply Kd.R_drewN | apply Kd.R_drew)); exact HO_14.out⟩, ⟨by (with_reducible repeat (first | refine blk_drewN ?_ _ | refine blk_drew ?_ | refine blk_alloc ?_ _)); exact BK632.out⟩, ⟨by repeat (first | (with_reducible first | exact HB.out | apply below_alloc | apply pw_below_drewN | apply below_drew1 | refine below_set ?_ GE632.out) | exact HB.out)⟩⟩
       case round =>
        clear H'
        try clear c1
        try clear c2
        try clear p2
        try clear c3
        try clear c7
        try clear c7b0
        try clear c7b1
        try clear c12
        try clear c13
        try clear c13b0
        try clear c13b1
        try clear c15
        try clear c18
        try clear c20
        try clear hcz21_0
        try clear hcz21_1
        try clear hfz21_0
        try clear hfz21_1
        try clear p2
        obtain ⟨x15_3, x633000_3, x633001_3, rfl, HA, HK3, HO_14, BK632, HB⟩ := hrel
        cases gk with
        | zero => exact absurd HA.out (by simp [plenumref21_Step.l0])
        | succ k3 =>
         have H := HA.out
         clear HA
         simp only [plenumref21_Step.l0] at H
         by_cases c22 : x15_3 < (l3.length : Int)
         ·
          rw [if_pos c22] at H
          have c22b0 : decide (x15_3 < (l3.length : Int)) = true := decide_eq_true c22
          clear c22
          by_cases c23 : 0 ≤ x15_3
          ·
           rw [if_pos c23] at H
           have c23b0 : decide (0 ≤ x15_3) = true := decide_eq_true c23
           clear c23
           by_cases c24 : x15_3 < (x14_7.length : Int)
           ·
            rw [if_pos c24] at H
            have c24b0 : decide (x15_3 < (x14_7.length : Int)) = true := decide_eq_true c24
            clear c24
            replace H := Option.bind_eq_some_iff.mp H
            obtain ⟨t643, A250, H⟩ := H
            replace H : (if t643 = true then (plenumref21_Step.l0 k3 a0 l1 l2 l3 a4 x14_7 (wrap64 (x15_3 + 1))) else (some (([] : List Int), 0, 0, 11))) = some (r1, r2, r3, r4) := H
            have A25 := Aside0.mk A250
            clear A250
            by_cases c26 : t643 = true
            ·
             subst c26
             rw [if_pos rfl] at H
             have H' := Aside0.mk H
             clear H
             try go_wp2
             have n0_ := Aside0.mk (Kd.R_drew HO_14.out)
             have n1_ := Aside0.mk (blk_drew BK632.out)
             have n2_ := Aside0.mk (below_drew1 HB.out)
             clear HO_14
             clear BK632
             clear HB
             have HO_14 := n0_
             have BK632 := n1_
             have HB := n2_
             clear n0_ n1_ n2_
             have p641 : 0 ≤ (x15_3 : Int) := ode
             have q641 : x15_3 < (l3.length : Int) := ode
             obtain ⟨ad641, e641, hx641_0, hx641_1⟩ := at_T27 HR3.out x15_3 p641 q641
             have hw641_1 := hx641_1
             have hw641_0 := hx641_0
             cases e641
             replace hx641_0 := (HB.out.cell (World.block_lt_of_cell? w _ hx641_0)).trans hx641_0
             replace hx641_1 := (HB.out.cell (World.block_lt_of_cell? w _ hx641_1)).trans hx641_1
             replace p641 := eq_true p641
             replace q641 := eq_true q641
             obtain ⟨Ao28, co28, eo28⟩ := Kd.R_slice HO_14.out
             (first | subst eo28 | (injection eo28 with f1_ f2_ f3_; have f4_ := f1_.symm; have f5_ := f3_.symm; clear f1_ f2_ f3_; subst f4_; subst f5_))
             have p642 : 0 ≤ (x15_3 : Int) := ode
             have q642 : x15_3 < (x14_7.length : Int) := ode
             obtain ⟨ad642, e642, hx642_0⟩ := Kd.at_int (Kd.R_reads' HO_14.out).2.2 x15_3 p642 q642
             cases e642
             replace p642 := eq_true p642
             replace q642 := eq_true q642
             refine start_ (n := 10) (S := fun w' => w'.cell? (ad641.add ((x15_3).toNat * 2)) = some (.int .i64 ((rd_T27 l3 x15_3).f0)) ∧ w'.cell? ⟨(ad641.add ((x15_3).toNat * 2)).block, (ad641.add ((x15_3).toNat * 2)).off + 1, none⟩ = some (.int .i64 ((rd_T27 l3 x15_3).f1)) ∧ w'.cell? (ad642.add (x15_3).toNat) = some (.int .i64 (rd x14_7 x15_3))) (ds := []) #[false, false, false, false, false, false, false, false, false, false] (by kernel_rfl) rfl rfl ⟨((HB.out.cell (World.block_lt_of_cell? w _ hw641_0)).trans hw641_0), ((HB.out.cell (World.block_lt_of_cell? w _ hw641_1)).trans hw641_1), hx642_0⟩ (fun hHeld => ?_); refine with_tabW plenumref21_Step.tab12 plenumref21_Step.bits12 (fun HT_ HW_ => ?_)
             generalize wr.drew = w27 at HO_14 BK632 HB hx641_0 hx641_1 hx642_0 hHeld ⊢
             refine pure_ (i := 0) (N := some 45) (v := ?_) (a' := ?_) #[true, false, false, false, false, false, false, false, false, false] rfl rfl (any_of HT_.out (by kernel_rfl)) (fun _ _ _ h => h) (Or.inl ⟨by rfl, ?_⟩) ?_ ?_
             rotate_left
             ·
              intro w'
              go_simp
              with_reducible rfl
             rotate_left
             ·
              simp only [Act.put, List.setIfInBounds_toArray, List.set_cons_zero, List.set_cons_succ, i64_w, i32_w]
              rfl
             refine pure_ (i := 1) (N := some 46) (v := ?_) (a' := ?_) #[true, true, false, false, false, false, false, false, false, false] rfl rfl (any_of HT_.out (by kernel_rfl)) (fun _ _ _ h => h) (Or.inl ⟨by rfl, ?_⟩) ?_ ?_
             rotate_left
             ·
              intro w'
              go_simp
              with_reducible rfl
             rotate_left
             ·
              simp only [Act.put, List.setIfInBounds_toArray, List.set_cons_zero, List.set_cons_succ, i64_w, i32_w]
              rfl
             refine pure_ (i := 2) (N := some 47) (v := ?_) (a' := ?_) #[true, true, true, false, false, false, false, false, false, false] rfl rfl (any_of HT_.out (by kernel_rfl)) (fun _ _ _ h => h) (Or.inl ⟨by rfl, ?_⟩) ?_ ?_
             rotate_left
             ·
              intro w'
              go_simp
              with_reducible rfl
             rotate_left
             ·
              simp only [Act.put, List.setIfInBounds_toArray, List.set_cons_zero, List.set_cons_succ, i64_w, i32_w]
              rfl
             refine pure_ (i := 4) (N := some 49) (v := ?_) (a' := ?_) #[true, true, true, false, true, false, false, false, false, false] rfl rfl (any_of HT_.out (by kernel_rfl)) (fun _ _ _ h => h) (Or.inl ⟨by rfl, ?_⟩) ?_ ?_
             rotate_left
             ·
              intro w'
              go_simp
              with_reducible rfl
             rotate_left
             ·
              simp only [Act.put, List.setIfInBounds_toArray, List.set_cons_zero, List.set_cons_succ, i64_w, i32_w]
              rfl
             refine pure_ (i := 5) (N := some 50) (v := ?_) (a' := ?_) #[true, true, true, false, true, true, false, false, false, false] rfl rfl (any_of HT_.out (by kernel_rfl)) (fun _ _ _ h => h) (Or.inl ⟨by rfl, ?_⟩) ?_ ?_
             rotate_left
             ·
              intro w'
              go_simp
              with_reducible rfl
             rotate_left
             ·
              simp only [Act.put, List.setIfInBounds_toArray, List.set_cons_zero, List.set_cons_succ, i64_w, i32_w]
              rfl
             refine pure_ (i := 6) (N := some 51) (v := ?_) (a' := ?_) #[true, true, true, false, true, true, true, false, false, false] rfl rfl (any_of HT_.out (by kernel_rfl)) (fun _ _ _ h => h) (Or.inl ⟨by rfl, ?_⟩) ?_ ?_
             rotate_left
             ·
              intro w'
              go_simp
              with_reducible rfl
             rotate_left
             ·
              simp only [Act.put, List.setIfInBounds_toArray, List.set_cons_zero, List.set_cons_succ, i64_w, i32_w]
              rfl
             refine take_ (i := 3) (N := some 48) (v := ?_) (a' := ?_) #[true, true, true, true, true, true, true, false, false, false] rfl rfl (take_ofW HT_.out HW_.out (by kernel_rfl)) (fun _ _ _ h => h) (Or.inl ⟨by rfl, ?_⟩) hHeld ?_ ?_
             rotate_left
             ·
              rintro w' ⟨s0, s1, s2⟩
              go_simp
              with_reducible rfl
             rotate_left
             ·
              simp only [Act.put, List.setIfInBounds_toArray, List.set_cons_zero, List.set_cons_succ, i64_w, i32_w]
              rfl
             refine take_ (i := 7) (N := some 52) (v := ?_) (a' := ?_) #[true, true, true, true, true, true, true, true, false, false] rfl rfl (take_ofW HT_.out HW_.out (by kernel_rfl)) (fun _ _ _ h => h) (Or.inl ⟨by rfl, ?_⟩) hHeld ?_ ?_
             rotate_left
             ·
              rintro w' ⟨s0, s1, s2⟩
              go_simp
              with_reducible rfl
             rotate_left
             ·
              simp only [Act.put, List.setIfInBounds_toArray, List.set_cons_zero, List.set_cons_succ, i64_w, i32_w]
              rfl
             refine one_ (i := 8) (N := some 53) #[true, true, true, true, true, true, true, true, true, false] rfl rfl (one_of HT_.out (by kernel_rfl)) (by decide) (fun K hK => ?_)
             refine goes_ Tryd.func29 (by kernel_rfl) rfl #[.agg #[.int .i64 ((rd_T27 l3 x15_3).f0), .int .i64 ((rd_T27 l3 x15_3).f1)], .int .i64 (rd x14_7 x15_3)] (by rfl) rfl rfl aeq ?_
             with_reducible refine (plenumref21_possible.calls ((rd_T27 l3 x15_3).f0) ((rd_T27 l3 x15_3).f1) (rd x14_7 x15_3) true _ A25.out).mono ?_
             rintro e w29 ⟨rfl, hb⟩
             have HS2_ := (hb.cell (World.block_lt_of_cell? _ _ (hHeld.2.2))).trans (hHeld.2.2)
             refine ⟨_, rfl, ?_⟩
             have n0_ := Aside0.mk (Kd.R_below (by (with_reducible repeat (first | apply Kd.R_alloc | apply Kd.R_drewN | apply Kd.R_drew)); exact HO_14.out) hb)
             have n1_ := Aside0.mk (blk_below (g := gb632) (o := .cells #[.int .i64 x633000_3, .int .i64 x633001_3] 27 (0, 0)) (by (with_reducible repeat (first | refine blk_drewN ?_ _ | refine blk_drew ?_ | refine blk_alloc ?_ _)); exact BK632.out) hb)
             have n2_ := Aside0.mk (below_step (by repeat (first | (with_reducible first | exact HB.out | apply below_alloc | apply pw_below_drewN | apply below_drew1 | refine below_set ?_ GE632.out) | exact HB.out)) hb)
             clear HO_14
             clear BK632
             clear HB
             have HO_14 := n0_
             have BK632 := n1_
             have HB := n2_
             clear n0_ n1_ n2_
             (try clear hb)
             (try clear hb2)
             (try clear hk)
             (try clear hi)
             refine hK.out _ _ ⟨((HB.out.cell (World.block_lt_of_cell? w _ hw641_0)).trans hw641_0), ((HB.out.cell (World.block_lt_of_cell? w _ hw641_1)).trans hw641_1), HS2_⟩ (fun hHeld => ?_)
             clear hK K
             refine norm_ (a' := ?_) ?_ ?_
             rotate_left
             ·
              show Act.put _ (some 53) _ = _
              simp only [Act.put, List.setIfInBounds_toArray, List.set_cons_zero, List.set_cons_succ, i64_w, i32_w]
              rfl
             refine pure_ (i := 9) (N := some 54) (v := ?_) (a' := ?_) #[true, true, true, true, true, true, true, true, true, true] rfl rfl (any_of HT_.out (by kernel_rfl)) (fun _ _ _ h => h) (Or.inl ⟨by rfl, ?_⟩) ?_ ?_
             rotate_left
             ·
              intro w'
              go_simp
              with_reducible rfl
             rotate_left
             ·
              simp only [Act.put, List.setIfInBounds_toArray, List.set_cons_zero, List.set_cons_succ, i64_w, i32_w]
              rfl
             refine done_ (done_of HT_.out (by kernel_rfl)) ?_
             try go_wp2
             go_roundg k3
             case measure => have := HJ7.out; have := HJ15.out; have := HK3.out; omega
             case rel => exact ⟨(wrap64 (x15_3 + 1)), (x633000_3), (x633001_3), (by first | rfl | (simp; done) | (simp [*]; done)), H', ⟨by have := HJ7.out; have := HJ15.out; have := HK3.out; omega⟩, ⟨by (with_reducible repeat (first | apply Kd.R_alloc | apply Kd.R_drewN | apply Kd.R_drew)); exact HO_14.out⟩, ⟨by (with_reducible repeat (first | refine blk_drewN ?_ _ | refine blk_drew ?_ | refine blk_alloc ?_ _)); exact BK632.out⟩, ⟨by repeat (first | (with_reducible first | exact HB.out | apply below_alloc | apply pw_below_drewN | apply below_drew1 | refine below_set ?_ GE632.out) | exact HB.out)⟩⟩
            ·
             replace c26 := Bool.eq_false_iff.mpr c26
             subst c26
             rw [if_neg (show ¬ (false = true) by decide)] at H
             simp only [Option.some.injEq, Prod.mk.injEq] at H
             obtain ⟨rfl, rfl, rfl, rfl⟩ := H
             try go_wp2
             have n0_ := Aside0.mk (Kd.R_drew HO_14.out)
             have n1_ := Aside0.mk (blk_drew BK632.out)
             have n2_ := Aside0.mk (below_drew1 HB.out)
             clear HO_14
             clear BK632
             clear HB
             have HO_14 := n0_
             have BK632 := n1_
             have HB := n2_
             clear n0_ n1_ n2_
             have p641 : 0 ≤ (x15_3 : Int) := ode
             have q641 : x15_3 < (l3.length : Int) := ode
             obtain ⟨ad641, e641, hx641_0, hx641_1⟩ := at_T27 HR3.out x15_3 p641 q641
             have hw641_1 := hx641_1
             have hw641_0 := hx641_0
             cases e641
             replace hx641_0 := (HB.out.cell (World.block_lt_of_cell? w _ hx641_0)).trans hx641_0
             replace hx641_1 := (HB.out.cell (World.block_lt_of_cell? w _ hx641_1)).trans hx641_1
             replace p641 := eq_true p641
             replace q641 := eq_true q641
             obtain ⟨Ao31, co31, eo31⟩ := Kd.R_slice HO_14.out
             (first | subst eo31 | (injection eo31 with f1_ f2_ f3_; have f4_ := f1_.symm; have f5_ := f3_.symm; clear f1_ f2_ f3_; subst f4_; subst f5_))
             have p642 : 0 ≤ (x15_3 : Int) := ode
             have q642 : x15_3 < (x14_7.length : Int) := ode
             obtain ⟨ad642, e642, hx642_0⟩ := Kd.at_int (Kd.R_reads' HO_14.out).2.2 x15_3 p642 q642
             cases e642
             replace p642 := eq_true p642
             replace q642 := eq_true q642
             refine start_ (n := 10) (S := fun w' => w'.cell? (ad641.add ((x15_3).toNat * 2)) = some (.int .i64 ((rd_T27 l3 x15_3).f0)) ∧ w'.cell? ⟨(ad641.add ((x15_3).toNat * 2)).block, (ad641.add ((x15_3).toNat * 2)).off + 1, none⟩ = some (.int .i64 ((rd_T27 l3 x15_3).f1)) ∧ w'.cell? (ad642.add (x15_3).toNat) = some (.int .i64 (rd x14_7 x15_3))) (ds := []) #[false, false, false, false, false, false, false, false, false, false] (by kernel_rfl) rfl rfl ⟨((HB.out.cell (World.block_lt_of_cell? w _ hw641_0)).trans hw641_0), ((HB.out.cell (World.block_lt_of_cell? w _ hw641_1)).trans hw641_1), hx642_0⟩ (fun hHeld => ?_); refine with_tabW plenumref21_Step.tab12 plenumref21_Step.bits12 (fun HT_ HW_ => ?_)
             generalize wr.drew = w30 at HO_14 BK632 HB hx641_0 hx641_1 hx642_0 hHeld ⊢
             refine pure_ (i := 0) (N := some 45) (v := ?_) (a' := ?_) #[true, false, false, false, false, false, false, false, false, false] rfl rfl (any_of HT_.out (by kernel_rfl)) (fun _ _ _ h => h) (Or.inl ⟨by rfl, ?_⟩) ?_ ?_
             rotate_left
             ·
              intro w'
              go_simp
              with_reducible rfl
             rotate_left
             ·
              simp only [Act.put, List.setIfInBounds_toArray, List.set_cons_zero, List.set_cons_succ, i64_w, i32_w]
              rfl
             refine pure_ (i := 1) (N := some 46) (v := ?_) (a' := ?_) #[true, true, false, false, false, false, false, false, false, false] rfl rfl (any_of HT_.out (by kernel_rfl)) (fun _ _ _ h => h) (Or.inl ⟨by rfl, ?_⟩) ?_ ?_
             rotate_left
             ·
              intro w'
              go_simp
              with_reducible rfl
             rotate_left
             ·
              simp only [Act.put, List.setIfInBounds_toArray, List.set_cons_zero, List.set_cons_succ, i64_w, i32_w]
              rfl
             refine pure_ (i := 2) (N := some 47) (v := ?_) (a' := ?_) #[true, true, true, false, false, false, false, false, false, false] rfl rfl (any_of HT_.out (by kernel_rfl)) (fun _ _ _ h => h) (Or.inl ⟨by rfl, ?_⟩) ?_ ?_
             rotate_left
             ·
              intro w'
              go_simp
              with_reducible rfl
             rotate_left
             ·
              simp only [Act.put, List.setIfInBounds_toArray, List.set_cons_zero, List.set_cons_succ, i64_w, i32_w]
              rfl
             refine pure_ (i := 4) (N := some 49) (v := ?_) (a' := ?_) #[true, true, true, false, true, false, false, false, false, false] rfl rfl (any_of HT_.out (by kernel_rfl)) (fun _ _ _ h => h) (Or.inl ⟨by rfl, ?_⟩) ?_ ?_
             rotate_left
             ·
              intro w'
              go_simp
              with_reducible rfl
             rotate_left
             ·
              simp only [Act.put, List.setIfInBounds_toArray, List.set_cons_zero, List.set_cons_succ, i64_w, i32_w]
              rfl
             refine pure_ (i := 5) (N := some 50) (v := ?_) (a' := ?_) #[true, true, true, false, true, true, false, false, false, false] rfl rfl (any_of HT_.out (by kernel_rfl)) (fun _ _ _ h => h) (Or.inl ⟨by rfl, ?_⟩) ?_ ?_
             rotate_left
             ·
              intro w'
              go_simp
              with_reducible rfl
             rotate_left
             ·
              simp only [Act.put, List.setIfInBounds_toArray, List.set_cons_zero, List.set_cons_succ, i64_w, i32_w]
              rfl
             refine pure_ (i := 6) (N := some 51) (v := ?_) (a' := ?_) #[true, true, true, false, true, true, true, false, false, false] rfl rfl (any_of HT_.out (by kernel_rfl)) (fun _ _ _ h => h) (Or.inl ⟨by rfl, ?_⟩) ?_ ?_
             rotate_left
             ·
              intro w'
              go_simp
              with_reducible rfl
             rotate_left
             ·
              simp only [Act.put, List.setIfInBounds_toArray, List.set_cons_zero, List.set_cons_succ, i64_w, i32_w]
              rfl
             refine take_ (i := 3) (N := some 48) (v := ?_) (a' := ?_) #[true, true, true, true, true, true, true, false, false, false] rfl rfl (take_ofW HT_.out HW_.out (by kernel_rfl)) (fun _ _ _ h => h) (Or.inl ⟨by rfl, ?_⟩) hHeld ?_ ?_
             rotate_left
             ·
              rintro w' ⟨s0, s1, s2⟩
              go_simp
              with_reducible rfl
             rotate_left
             ·
              simp only [Act.put, List.setIfInBounds_toArray, List.set_cons_zero, List.set_cons_succ, i64_w, i32_w]
              rfl
             refine take_ (i := 7) (N := some 52) (v := ?_) (a' := ?_) #[true, true, true, true, true, true, true, true, false, false] rfl rfl (take_ofW HT_.out HW_.out (by kernel_rfl)) (fun _ _ _ h => h) (Or.inl ⟨by rfl, ?_⟩) hHeld ?_ ?_
             rotate_left
             ·
              rintro w' ⟨s0, s1, s2⟩
              go_simp
              with_reducible rfl
             rotate_left
             ·
              simp only [Act.put, List.setIfInBounds_toArray, List.set_cons_zero, List.set_cons_succ, i64_w, i32_w]
              rfl
             refine one_ (i := 8) (N := some 53) #[true, true, true, true, true, true, true, true, true, false] rfl rfl (one_of HT_.out (by kernel_rfl)) (by decide) (fun K hK => ?_)
             refine goes_ Tryd.func29 (by kernel_rfl) rfl #[.agg #[.int .i64 ((rd_T27 l3 x15_3).f0), .int .i64 ((rd_T27 l3 x15_3).f1)], .int .i64 (rd x14_7 x15_3)] (by rfl) rfl rfl aeq ?_
             with_reducible refine (plenumref21_possible.calls ((rd_T27 l3 x15_3).f0) ((rd_T27 l3 x15_3).f1) (rd x14_7 x15_3) false _ A25.out).mono ?_
             rintro e w32 ⟨rfl, hb⟩
             have HS2_ := (hb.cell (World.block_lt_of_cell? _ _ (hHeld.2.2))).trans (hHeld.2.2)
             refine ⟨_, rfl, ?_⟩
             have n0_ := Aside0.mk (Kd.R_below (by (with_reducible repeat (first | apply Kd.R_alloc | apply Kd.R_drewN | apply Kd.R_drew)); exact HO_14.out) hb)
             have n1_ := Aside0.mk (blk_below (g := gb632) (o := .cells #[.int .i64 x633000_3, .int .i64 x633001_3] 27 (0, 0)) (by (with_reducible repeat (first | refine blk_drewN ?_ _ | refine blk_drew ?_ | refine blk_alloc ?_ _)); exact BK632.out) hb)
             have n2_ := Aside0.mk (below_step (by repeat (first | (with_reducible first | exact HB.out | apply below_alloc | apply pw_below_drewN | apply below_drew1 | refine below_set ?_ GE632.out) | exact HB.out)) hb)
             clear HO_14
             clear BK632
             clear HB
             have HO_14 := n0_
             have BK632 := n1_
             have HB := n2_
             clear n0_ n1_ n2_
             (try clear hb)
             (try clear hb2)
             (try clear hk)
             (try clear hi)
             refine hK.out _ _ ⟨((HB.out.cell (World.block_lt_of_cell? w _ hw641_0)).trans hw641_0), ((HB.out.cell (World.block_lt_of_cell? w _ hw641_1)).trans hw641_1), HS2_⟩ (fun hHeld => ?_)
             clear hK K
             refine norm_ (a' := ?_) ?_ ?_
             rotate_left
             ·
              show Act.put _ (some 53) _ = _
              simp only [Act.put, List.setIfInBounds_toArray, List.set_cons_zero, List.set_cons_succ, i64_w, i32_w]
              rfl
             refine pure_ (i := 9) (N := some 54) (v := ?_) (a' := ?_) #[true, true, true, true, true, true, true, true, true, true] rfl rfl (any_of HT_.out (by kernel_rfl)) (fun _ _ _ h => h) (Or.inl ⟨by rfl, ?_⟩) ?_ ?_
             rotate_left
             ·
              intro w'
              go_simp
              with_reducible rfl
             rotate_left
             ·
              simp only [Act.put, List.setIfInBounds_toArray, List.set_cons_zero, List.set_cons_succ, i64_w, i32_w]
              rfl
             refine done_ (done_of HT_.out (by kernel_rfl)) ?_
             have hcz33_0 : w32.cell? ⟨gb632, 0, none⟩ = some (.int .i64 x633000_3) := (blk_cell BK632.out 0).trans rfl
             have hcz33_1 : w32.cell? ⟨gb632, 1, none⟩ = some (.int .i64 x633001_3) := (blk_cell BK632.out 1).trans rfl
             have hfz33_0 := blk_frozen BK632.out 0
             have hfz33_1 := blk_frozen BK632.out 1
             try go_wp2
             refine bodyPost_ret (results_list (rs := [.tmp 10, .cell 11 27, .tmp 12]) rfl (by simp) (.tmp (.cell gb632 27 #[.int .i64 0, .int .i64 0] (0, 0) _ rfl (by (with_reducible repeat (first | refine blk_drewN ?_ _ | refine blk_drew ?_ | refine blk_alloc ?_ _)); refine blk_put (cs := #[.int .i64 0, .int .i64 x633001_3]) ?_ 1 _ rfl; (with_reducible repeat (first | refine blk_drewN ?_ _ | refine blk_drew ?_ | refine blk_alloc ?_ _)); refine blk_put (cs := #[.int .i64 x633000_3, .int .i64 x633001_3]) ?_ 0 _ rfl; (with_reducible repeat (first | refine blk_drewN ?_ _ | refine blk_drew ?_ | refine blk_alloc ?_ _)); exact BK632.out) Tryd.underlying27 rfl (by kernel_rfl) (.tmp .nil)))) rfl ?_
             exact ⟨_, by first | rfl | (simp [errW_none, errW_some] <;> rfl) | (simp [*, errW_none, errW_some] <;> rfl), by first | exact Kd.R_nil _ _ _ _ _ | exact Kd.R_nil _ _ _ 0 _ | exact Kd.N_nil _ _ _ _ _ | exact Kd.V_nil _ _ _ _ _ | exact Kd.Q_nil _ _ _ _ _ | exact Kd.S_nil _ _ _ _ _, by repeat (first | (with_reducible first | exact HB.out | apply below_alloc | apply pw_below_drewN | apply below_drew1 | refine below_set ?_ GE632.out) | exact HB.out)⟩
           ·
            rw [if_neg c24] at H
            exact absurd H (by simp)
          ·
           rw [if_neg c23] at H
           exact absurd H (by simp)
         ·
          rw [if_neg c22] at H
          have c22b0 : decide (x15_3 < (l3.length : Int)) = false := decide_eq_false c22
          clear c22
          replace H := Option.bind_eq_some_iff.mp H
          obtain ⟨t644, A340, H⟩ := H
          replace H : (if t644 = true then (if a0.toList = ([115, 116, 97, 103, 101] : List UInt8) then (if 0 < (l3.length : Int) then ((plenumref21_Stage.f k3 l1 l2 ((rd_T27 l3 0).f1) a4).bind fun t646 => (if 0 < (t646.length : Int) then (some (t646, 3, wrap64 ((rd t646 0) + 1), 0)) else (none))) else (none)) else (if 0 < (l3.length : Int) then (if 1 < (l3.length : Int) then ((plenumref21_Steps.f l1 l2 (((rd_T27 l3 0).f1) == 1) (((rd_T27 l3 1).f1) == 1) a4).bind fun t652 => (if 0 < (t652.length : Int) then (some (t652, 3, wrap64 ((rd t652 0) + 1), 0)) else (none))) else (none)) else (none))) else (some (([] : List Int), 0, 0, 8))) = some (r1, r2, r3, r4) := H
          have A34 := Aside0.mk A340
          clear A340
          by_cases c35 : t644 = true
          ·
           subst c35
           rw [if_pos rfl] at H
           by_cases c36 : a0.toList = ([115, 116, 97, 103, 101] : List UInt8)
           ·
            rw [if_pos c36] at H
            have c36b0 : (a0.toList == ([115, 116, 97, 103, 101] : List UInt8)) = true := beq_iff_eq.mpr c36
            have c36b1 : (a0.toList != ([115, 116, 97, 103, 101] : List UInt8)) = false := bne_eq_false_iff_eq.mpr c36
            clear c36
            by_cases c37 : 0 < (l3.length : Int)
            ·
             rw [if_pos c37] at H
             have c37b0 : decide (0 < (l3.length : Int)) = true := decide_eq_true c37
             have c37b1 : decide (0 < l3.length) = true := decide_eq_true (by omega)
             clear c37
             replace H := Option.bind_eq_some_iff.mp H
             obtain ⟨t646, A380, H⟩ := H
             replace H : (if 0 < (t646.length : Int) then (some (t646, 3, wrap64 ((rd t646 0) + 1), 0)) else (none)) = some (r1, r2, r3, r4) := H
             have A38 := Aside0.mk A380
             clear A380
             by_cases c39 : 0 < (t646.length : Int)
             ·
              rw [if_pos c39] at H
              have c39b0 : decide (0 < (t646.length : Int)) = true := decide_eq_true c39
              have c39b1 : decide (0 < t646.length) = true := decide_eq_true (by omega)
              clear c39
              simp only [Option.some.injEq, Prod.mk.injEq] at H
              obtain ⟨rfl, rfl, rfl, rfl⟩ := H
              try go_wp2_with (first | ((with_reducible refine gate_callee (f := 18) rfl ?_); refine goesL_ (some 59) rfl rfl Tryd.func18 (by kernel_rfl) rfl #[.string a0, .slice A1 l1.length c1, .slice A2 l2.length c2] rfl aeq ?_; (with_reducible refine (plenumref21_State.calls k3 a0 _ _ l1 _ _ l2 true _ ?side1 ?side2 ?side3 ?side4 A34.out).mono ?_); (case side1 => repeat (first | exact (Kd.C_below HR1.out HB.out) | (with_reducible refine Kd.C_alloc ?_ _) | (with_reducible refine Kd.C_drewN ?_ _) | (with_reducible refine Kd.C_drew ?_))); (case side2 => exact HC1.out); (case side3 => repeat (first | exact (Kd.C_below HR2.out HB.out) | (with_reducible refine Kd.C_alloc ?_ _) | (with_reducible refine Kd.C_drewN ?_ _) | (with_reducible refine Kd.C_drew ?_))); (case side4 => exact HC2.out); rintro e w' ⟨rfl, ⟨nd, rfl⟩⟩; refine ⟨_, rfl, ?_⟩; (try (rw [drewN_self wr]; generalize hq_ : World.drewN wr _ = wr; have n0_ : Aside0 (Kd.R (Kd.int .i64) 3 wr w.heap.size (fun _ => True) u14 x14_7) := ⟨by rw [← hq_]; exact (by (with_reducible repeat (first | apply Kd.R_alloc | apply Kd.R_drewN | apply Kd.R_drew)); exact HO_14.out)⟩; have n1_ : Aside0 (wr.heap[gb632]? = some (.cells #[.int .i64 x633000_3, .int .i64 x633001_3] 27 (0, 0))) := ⟨by rw [← hq_]; exact (by (with_reducible repeat (first | refine blk_drewN ?_ _ | refine blk_drew ?_ | refine blk_alloc ?_ _)); exact BK632.out)⟩; have n2_ : Aside0 (Below w.heap.size w wr) := ⟨by rw [← hq_]; exact (by repeat (first | (with_reducible first | exact HB.out | apply below_alloc | apply pw_below_drewN | apply below_drew1 | refine below_set ?_ GE632.out) | exact HB.out))⟩; clear HO_14 BK632 HB hq_; have HO_14 := n0_; have BK632 := n1_; have HB := n2_; clear n0_ n1_ n2_)); have p645 : 0 ≤ (0 : Int) := (by omega); have q645 : 0 < (l3.length : Int) := ode; obtain ⟨ad645, e645, hx645_0, hx645_1⟩ := at_T27 HR3.out 0 p645 q645; cases e645; have qi645 : (0 < l3.length) = True := eq_true (by omega); (try rw [show ((0 : Int)).toNat = 0 from rfl] at hx645_0); (try rw [show 0 * 2 = 0 from rfl] at hx645_0); (try rw [Addr.add_zero'] at hx645_0); (try rw [show ((0 : Int)).toNat = 0 from rfl] at hx645_1); (try rw [show 0 * 2 = 0 from rfl] at hx645_1); (try rw [Addr.add_zero'] at hx645_1); replace hx645_0 := (HB.out.cell (World.block_lt_of_cell? w _ hx645_0)).trans hx645_0; replace hx645_1 := (HB.out.cell (World.block_lt_of_cell? w _ hx645_1)).trans hx645_1; replace p645 := eq_true p645; replace q645 := eq_true q645) | ((with_reducible refine gate_callee (f := 30) rfl ?_); refine goesL_ (some 71) rfl rfl Tryd.func30 (by kernel_rfl) rfl #[.slice A1 l1.length c1, .slice A2 l2.length c2, .int .i64 ((rd_T27 l3 0).f1), .int .i64 a4] rfl aeq ?_; (with_reducible refine (plenumref21_Stage.calls k3 _ _ l1 _ _ l2 ((rd_T27 l3 0).f1) a4 t646 _ ?side1 ?side2 ?side3 ?side4 A38.out).mono ?_); (case side1 => repeat (first | exact (Kd.C_below HR1.out HB.out) | (with_reducible refine Kd.C_alloc ?_ _) | (with_reducible refine Kd.C_drewN ?_ _) | (with_reducible refine Kd.C_drew ?_))); (case side2 => exact HC1.out); (case side3 => repeat (first | exact (Kd.C_below HR2.out HB.out) | (with_reducible refine Kd.C_alloc ?_ _) | (with_reducible refine Kd.C_drewN ?_ _) | (with_reducible refine Kd.C_drew ?_))); (case side4 => exact HC2.out); rintro e w40 ⟨v647, rfl, ho0, hb⟩; refine ⟨_, rfl, ?_⟩; have n0_ := Aside0.mk (Kd.R_below (by (with_reducible repeat (first | apply Kd.R_alloc | apply Kd.R_drewN | apply Kd.R_drew)); exact HO_14.out) hb); have n1_ := Aside0.mk (Kd.R_lower ho0 (below_size (by repeat (first | (with_reducible first | exact HB.out | apply below_alloc | apply pw_below_drewN | apply below_drew1 | refine below_set ?_ GE632.out) | exact HB.out)))); have n2_ := Aside0.mk (blk_below (g := gb632) (o := .cells #[.int .i64 x633000_3, .int .i64 x633001_3] 27 (0, 0)) (by (with_reducible repeat (first | refine blk_drewN ?_ _ | refine blk_drew ?_ | refine blk_alloc ?_ _)); exact BK632.out) hb); have n3_ := Aside0.mk (below_step (by repeat (first | (with_reducible first | exact HB.out | apply below_alloc | apply pw_below_drewN | apply below_drew1 | refine below_set ?_ GE632.out) | exact HB.out)) hb); clear HO_14; clear BK632; clear HB; have HO_14 := n0_; have HO648 := n1_; have BK632 := n2_; have HB := n3_; clear n0_ n1_ n2_ n3_; (try clear hb); (try clear hb2); (try clear hk); (try clear hi); (try clear ho0)))
              have n0_ := Aside0.mk (Kd.R_drew HO_14.out)
              have n1_ := Aside0.mk (Kd.R_drew HO648.out)
              have n2_ := Aside0.mk (blk_drew BK632.out)
              have n3_ := Aside0.mk (below_drew1 HB.out)
              clear HO_14
              clear HO648
              clear BK632
              clear HB
              have HO_14 := n0_
              have HO648 := n1_
              have BK632 := n2_
              have HB := n3_
              clear n0_ n1_ n2_ n3_
              obtain ⟨Ao42, co42, eo42⟩ := Kd.R_slice HO648.out
              (first | subst eo42 | (injection eo42 with f1_ f2_ f3_; have f4_ := f1_.symm; have f5_ := f3_.symm; clear f1_ f2_ f3_; subst f4_; subst f5_))
              have p649 : 0 ≤ (0 : Int) := (by omega)
              have q649 : 0 < (t646.length : Int) := ode
              obtain ⟨ad649, e649, hx649_0⟩ := Kd.at_int (Kd.R_reads' HO648.out).2.2 0 p649 q649
              cases e649
              have qi649 : (0 < t646.length) = True := eq_true (by omega)
              (try rw [show ((0 : Int)).toNat = 0 from rfl] at hx649_0)
              (try rw [Addr.add_zero'] at hx649_0)
              replace p649 := eq_true p649
              replace q649 := eq_true q649
              refine start_ (n := 9) (S := fun w' => w'.cell? ad649 = some (.int .i64 (rd t646 0))) (ds := []) #[false, false, false, false, false, false, false, false, false] (by kernel_rfl) rfl rfl (hx649_0) (fun hHeld => ?_); refine with_tabW plenumref21_Step.tab20 plenumref21_Step.bits20 (fun HT_ HW_ => ?_)
              generalize w40.drew = w41 at HO_14 HO648 BK632 HB hx649_0 hHeld ⊢
              refine pure_ (i := 0) (N := some 86) (v := ?_) (a' := ?_) #[true, false, false, false, false, false, false, false, false] rfl rfl (any_of HT_.out (by kernel_rfl)) (fun _ _ _ h => h) (Or.inl ⟨by rfl, ?_⟩) ?_ ?_
              rotate_left
              ·
               intro w'
               go_simp
               with_reducible rfl
              rotate_left
              ·
               simp only [Act.put, List.setIfInBounds_toArray, List.set_cons_zero, List.set_cons_succ, i64_w, i32_w]
               rfl
              refine pure_ (i := 1) (N := some 87) (v := ?_) (a' := ?_) #[true, true, false, false, false, false, false, false, false] rfl rfl (any_of HT_.out (by kernel_rfl)) (fun _ _ _ h => h) (Or.inl ⟨by rfl, ?_⟩) ?_ ?_
              rotate_left
              ·
               intro w'
               go_simp
               with_reducible rfl
              rotate_left
              ·
               simp only [Act.put, List.setIfInBounds_toArray, List.set_cons_zero, List.set_cons_succ, i64_w, i32_w]
               rfl
              refine pure_ (i := 2) (N := some 88) (v := ?_) (a' := ?_) #[true, true, true, false, false, false, false, false, false] rfl rfl (any_of HT_.out (by kernel_rfl)) (fun _ _ _ h => h) (Or.inl ⟨by rfl, ?_⟩) ?_ ?_
              rotate_left
              ·
               intro w'
               go_simp
               with_reducible rfl
              rotate_left
              ·
               simp only [Act.put, List.setIfInBounds_toArray, List.set_cons_zero, List.set_cons_succ, i64_w, i32_w]
               rfl
              refine pure_ (i := 6) (N := some 10) (v := ?_) (a' := ?_) #[true, true, true, false, false, false, true, false, false] rfl rfl (any_of HT_.out (by kernel_rfl)) (fun _ _ _ h => h) (Or.inl ⟨by rfl, ?_⟩) ?_ ?_
              rotate_left
              ·
               intro w'
               go_simp
               with_reducible rfl
              rotate_left
              ·
               simp only [Act.put, List.setIfInBounds_toArray, List.set_cons_zero, List.set_cons_succ, i64_w, i32_w]
               rfl
              refine take_ (i := 3) (N := some 89) (v := ?_) (a' := ?_) #[true, true, true, true, false, false, true, false, false] rfl rfl (take_ofW HT_.out HW_.out (by kernel_rfl)) (fun _ _ _ h => h) (Or.inl ⟨by rfl, ?_⟩) hHeld ?_ ?_
              rotate_left
              ·
               intro w' s0
               go_simp
               with_reducible rfl
              rotate_left
              ·
               simp only [Act.put, List.setIfInBounds_toArray, List.set_cons_zero, List.set_cons_succ, i64_w, i32_w]
               rfl
              refine pure_ (i := 4) (N := some 90) (v := ?_) (a' := ?_) #[true, true, true, true, true, false, true, false, false] rfl rfl (any_of HT_.out (by kernel_rfl)) (fun _ _ _ h => h) (Or.inl ⟨by rfl, ?_⟩) ?_ ?_
              rotate_left
              ·
               intro w'
               go_simp
               with_reducible rfl
              rotate_left
              ·
               simp only [Act.put, List.setIfInBounds_toArray, List.set_cons_zero, List.set_cons_succ, i64_w, i32_w]
               rfl
              refine pure_ (i := 5) (N := some 91) (v := ?_) (a' := ?_) #[true, true, true, true, true, true, true, false, false] rfl rfl (any_of HT_.out (by kernel_rfl)) (fun _ _ _ h => h) (Or.inl ⟨by rfl, ?_⟩) ?_ ?_
              rotate_left
              ·
               intro w'
               go_simp
               with_reducible rfl
              rotate_left
              ·
               simp only [Act.put, List.setIfInBounds_toArray, List.set_cons_zero, List.set_cons_succ, i64_w, i32_w]
               rfl
              refine one_ (i := 7) (N := none) #[true, true, true, true, true, true, true, true, false] rfl rfl (one_of HT_.out (by kernel_rfl)) (by decide) (fun K hK => ?_)
              have hs43 : w41.cell? ⟨gb632, 0, none⟩ = some (.int .i64 x633000_3) := (blk_cell BK632.out 0).trans rfl
              have hfs43 := blk_frozen BK632.out 0
              have hs44 : w41.cell? ⟨gb632, 1, none⟩ = some (.int .i64 x633001_3) := (blk_cell BK632.out 1).trans rfl
              have hfs44 := blk_frozen BK632.out 1
              refine skip_ (w1 := ?_) (by rfl) rfl ?_ ?_
              rotate_left
              ·
               go_simp
               rfl
              refine hK.out _ _ (((cell_far (p := ⟨gb632, _, none⟩) (by first | exact Kd.own_blk (Kd.R_ne HO648.out BK632.out (by decide)) | (rw [add_block]; exact Kd.own_blk (Kd.R_ne HO648.out BK632.out (by decide))) | (show (Addr.add _ _).block ≠ _; rw [add_block]; exact Kd.own_blk (Kd.R_ne HO648.out BK632.out (by decide))) | (dsimp only; exact Kd.own_blk (Kd.R_ne HO648.out BK632.out (by decide)))) _).trans (((cell_far (p := ⟨gb632, _, none⟩) (by first | exact Kd.own_blk (Kd.R_ne HO648.out BK632.out (by decide)) | (rw [add_block]; exact Kd.own_blk (Kd.R_ne HO648.out BK632.out (by decide))) | (show (Addr.add _ _).block ≠ _; rw [add_block]; exact Kd.own_blk (Kd.R_ne HO648.out BK632.out (by decide))) | (dsimp only; exact Kd.own_blk (Kd.R_ne HO648.out BK632.out (by decide)))) _).trans (hHeld))))) (fun hHeld => ?_)
              clear hK K
              refine pure_ (i := 8) (N := some 12) (v := ?_) (a' := ?_) #[true, true, true, true, true, true, true, true, true] rfl rfl (any_of HT_.out (by kernel_rfl)) (fun _ _ _ h => h) (Or.inl ⟨by rfl, ?_⟩) ?_ ?_
              rotate_left
              ·
               intro w'
               go_simp
               with_reducible rfl
              rotate_left
              ·
               simp only [Act.put, List.setIfInBounds_toArray, List.set_cons_zero, List.set_cons_succ, i64_w, i32_w]
               rfl
              refine done_ (done_of HT_.out (by kernel_rfl)) ?_
              try go_wp2
              refine bodyPost_ret (results_list (rs := [.tmp 10, .cell 11 27, .tmp 12]) rfl (by simp) (.tmp (.cell gb632 27 #[.int .i64 3, .int .i64 (wrap64 ((rd t646 0) + 1))] (0, 0) _ rfl (by (with_reducible repeat (first | refine blk_drewN ?_ _ | refine blk_drew ?_ | refine blk_alloc ?_ _)); refine blk_put (cs := #[.int .i64 3, .int .i64 x633001_3]) ?_ 1 _ rfl; (with_reducible repeat (first | refine blk_drewN ?_ _ | refine blk_drew ?_ | refine blk_alloc ?_ _)); refine blk_put (cs := #[.int .i64 x633000_3, .int .i64 x633001_3]) ?_ 0 _ rfl; (with_reducible repeat (first | refine blk_drewN ?_ _ | refine blk_drew ?_ | refine blk_alloc ?_ _)); exact BK632.out) Tryd.underlying27 rfl (by kernel_rfl) (.tmp .nil)))) rfl ?_
              exact ⟨_, by first | rfl | (simp [errW_none, errW_some] <;> rfl) | (simp [*, errW_none, errW_some] <;> rfl), by (with_reducible repeat (first | apply Kd.R_alloc | apply Kd.R_drewN | apply Kd.R_drew)); exact Kd.R_mono (Kd.R_far (p := ⟨gb632, 1, none⟩) (Kd.R_far (p := ⟨gb632, 0, none⟩) (Kd.R_types HO648.out BK632.out (by decide)) (fun _ hk => hk.2) (.int .i64 3)) (fun _ hk => hk.2) (.int .i64 (wrap64 ((rd t646 0) + 1)))) (fun _ hk => trivial), by repeat (first | (with_reducible first | exact HB.out | apply below_alloc | apply pw_below_drewN | apply below_drew1 | refine below_set ?_ GE632.out) | exact HB.out)⟩
             ·
              rw [if_neg c39] at H
              exact absurd H (by simp)
            ·
             rw [if_neg c37] at H
             exact absurd H (by simp)
           ·
            rw [if_neg c36] at H
            have c36b0 : (a0.toList == ([115, 116, 97, 103, 101] : List UInt8)) = false := beq_eq_false_iff_ne.mpr c36
            have c36b1 : (a0.toList != ([115, 116, 97, 103, 101] : List UInt8)) = true := bne_iff_ne.mpr c36
            by_cases c45 : 0 < (l3.length : Int)
            ·
             rw [if_pos c45] at H
             have c45b0 : decide (0 < (l3.length : Int)) = true := decide_eq_true c45
             have c45b1 : decide (0 < l3.length) = true := decide_eq_true (by omega)
             clear c45
             by_cases c46 : 1 < (l3.length : Int)
             ·
              rw [if_pos c46] at H
              have c46b0 : decide (1 < (l3.length : Int)) = true := decide_eq_true c46
              have c46b1 : decide (1 < l3.length) = true := decide_eq_true (by omega)
              clear c46
              replace H := Option.bind_eq_some_iff.mp H
              obtain ⟨t652, A470, H⟩ := H
              replace H : (if 0 < (t652.length : Int) then (some (t652, 3, wrap64 ((rd t652 0) + 1), 0)) else (none)) = some (r1, r2, r3, r4) := H
              have A47 := Aside0.mk A470
              clear A470
              by_cases c48 : 0 < (t652.length : Int)
              ·
               rw [if_pos c48] at H
               have c48b0 : decide (0 < (t652.length : Int)) = true := decide_eq_true c48
               have c48b1 : decide (0 < t652.length) = true := decide_eq_true (by omega)
               clear c48
               simp only [Option.some.injEq, Prod.mk.injEq] at H
               obtain ⟨rfl, rfl, rfl, rfl⟩ := H
               try go_wp2_with (first | ((with_reducible refine gate_callee (f := 18) rfl ?_); refine goesL_ (some 59) rfl rfl Tryd.func18 (by kernel_rfl) rfl #[.string a0, .slice A1 l1.length c1, .slice A2 l2.length c2] rfl aeq ?_; (with_reducible refine (plenumref21_State.calls k3 a0 _ _ l1 _ _ l2 true _ ?side1 ?side2 ?side3 ?side4 A34.out).mono ?_); (case side1 => repeat (first | exact (Kd.C_below HR1.out HB.out) | (with_reducible refine Kd.C_alloc ?_ _) | (with_reducible refine Kd.C_drewN ?_ _) | (with_reducible refine Kd.C_drew ?_))); (case side2 => exact HC1.out); (case side3 => repeat (first | exact (Kd.C_below HR2.out HB.out) | (with_reducible refine Kd.C_alloc ?_ _) | (with_reducible refine Kd.C_drewN ?_ _) | (with_reducible refine Kd.C_drew ?_))); (case side4 => exact HC2.out); rintro e w' ⟨rfl, ⟨nd, rfl⟩⟩; refine ⟨_, rfl, ?_⟩; (try (rw [drewN_self wr]; generalize hq_ : World.drewN wr _ = wr; have n0_ : Aside0 (Kd.R (Kd.int .i64) 3 wr w.heap.size (fun _ => True) u14 x14_7) := ⟨by rw [← hq_]; exact (by (with_reducible repeat (first | apply Kd.R_alloc | apply Kd.R_drewN | apply Kd.R_drew)); exact HO_14.out)⟩; have n1_ : Aside0 (wr.heap[gb632]? = some (.cells #[.int .i64 x633000_3, .int .i64 x633001_3] 27 (0, 0))) := ⟨by rw [← hq_]; exact (by (with_reducible repeat (first | refine blk_drewN ?_ _ | refine blk_drew ?_ | refine blk_alloc ?_ _)); exact BK632.out)⟩; have n2_ : Aside0 (Below w.heap.size w wr) := ⟨by rw [← hq_]; exact (by repeat (first | (with_reducible first | exact HB.out | apply below_alloc | apply pw_below_drewN | apply below_drew1 | refine below_set ?_ GE632.out) | exact HB.out))⟩; clear HO_14 BK632 HB hq_; have HO_14 := n0_; have BK632 := n1_; have HB := n2_; clear n0_ n1_ n2_))))
               have n0_ := Aside0.mk (Kd.R_drew HO_14.out)
               have n1_ := Aside0.mk (blk_drew BK632.out)
               have n2_ := Aside0.mk (below_drew1 HB.out)
               clear HO_14
               clear BK632
               clear HB
               have HO_14 := n0_
               have BK632 := n1_
               have HB := n2_
               clear n0_ n1_ n2_
               have p650 : 0 ≤ (0 : Int) := (by omega)
               have q650 : 0 < (l3.length : Int) := ode
               obtain ⟨ad650, e650, hx650_0, hx650_1⟩ := at_T27 HR3.out 0 p650 q650
               have hw650_1 := hx650_1
               (try rw [show ((0 : Int)).toNat = 0 from rfl] at hw650_1)
               (try rw [show 0 * 2 = 0 from rfl] at hw650_1)
               (try rw [Addr.add_zero'] at hw650_1)
               have hw650_0 := hx650_0
               (try rw [show ((0 : Int)).toNat = 0 from rfl] at hw650_0)
               (try rw [show 0 * 2 = 0 from rfl] at hw650_0)
               (try rw [Addr.add_zero'] at hw650_0)
               cases e650
               have qi650 : (0 < l3.length) = True := eq_true (by omega)
               (try rw [show ((0 : Int)).toNat = 0 from rfl] at hx650_0)
               (try rw [show 0 * 2 = 0 from rfl] at hx650_0)
               (try rw [Addr.add_zero'] at hx650_0)
               (try rw [show ((0 : Int)).toNat = 0 from rfl] at hx650_1)
               (try rw [show 0 * 2 = 0 from rfl] at hx650_1)
               (try rw [Addr.add_zero'] at hx650_1)
               replace hx650_0 := (HB.out.cell (World.block_lt_of_cell? w _ hx650_0)).trans hx650_0
               replace hx650_1 := (HB.out.cell (World.block_lt_of_cell? w _ hx650_1)).trans hx650_1
               replace p650 := eq_true p650
               replace q650 := eq_true q650
               have p651 : 0 ≤ (1 : Int) := (by omega)
               have q651 : 1 < (l3.length : Int) := ode
               obtain ⟨ad651, e651, hx651_0, hx651_1⟩ := at_T27 HR3.out 1 p651 q651
               have hw651_1 := hx651_1
               (try rw [show ((1 : Int)).toNat = 1 from rfl] at hw651_1)
               (try rw [show 1 * 2 = 2 from rfl] at hw651_1)
               (try simp only [Nat.reduceMul, Nat.reduceEqDiff, Go.Addr.add, ↓reduceIte] at hw651_1)
               have hw651_0 := hx651_0
               (try rw [show ((1 : Int)).toNat = 1 from rfl] at hw651_0)
               (try rw [show 1 * 2 = 2 from rfl] at hw651_0)
               (try simp only [Nat.reduceMul, Nat.reduceEqDiff, Go.Addr.add, ↓reduceIte] at hw651_0)
               obtain rfl : ad650 = ad651 := (by injection e651)
               (try simp only [show (1 : Int).toNat = 1 from rfl, Nat.reduceMul, Nat.reduceEqDiff, Go.Addr.add, ↓reduceIte] at hx651_0)
               (try simp only [show (1 : Int).toNat = 1 from rfl, Nat.reduceMul, Nat.reduceEqDiff, Go.Addr.add, ↓reduceIte] at hx651_1)
               have qi651 : (1 < l3.length) = True := eq_true (by omega)
               (try rw [show ((1 : Int)).toNat = 1 from rfl] at hx651_0)
               (try rw [show 1 * 2 = 2 from rfl] at hx651_0)
               (try rw [show ((1 : Int)).toNat = 1 from rfl] at hx651_1)
               (try rw [show 1 * 2 = 2 from rfl] at hx651_1)
               replace hx651_0 := (HB.out.cell (World.block_lt_of_cell? w _ hx651_0)).trans hx651_0
               replace hx651_1 := (HB.out.cell (World.block_lt_of_cell? w _ hx651_1)).trans hx651_1
               replace p651 := eq_true p651
               replace q651 := eq_true q651
               refine start_ (n := 15) (S := fun w' => w'.cell? ad650 = some (.int .i64 ((rd_T27 l3 0).f0)) ∧ w'.cell? ⟨ad650.block, ad650.off + 1, none⟩ = some (.int .i64 ((rd_T27 l3 0).f1)) ∧ w'.cell? ⟨ad650.block, ad650.off + 2, none⟩ = some (.int .i64 ((rd_T27 l3 1).f0)) ∧ w'.cell? ⟨ad650.block, ad650.off + 2 + 1, none⟩ = some (.int .i64 ((rd_T27 l3 1).f1))) (ds := []) #[false, false, false, false, false, false, false, false, false, false, false, false, false, false, false] (by kernel_rfl) rfl rfl ⟨((HB.out.cell (World.block_lt_of_cell? w _ hw650_0)).trans hw650_0), ((HB.out.cell (World.block_lt_of_cell? w _ hw650_1)).trans hw650_1), ((HB.out.cell (World.block_lt_of_cell? w _ hw651_0)).trans hw651_0), ((HB.out.cell (World.block_lt_of_cell? w _ hw651_1)).trans hw651_1)⟩ (fun hHeld => ?_); refine with_tabW plenumref21_Step.tab19 plenumref21_Step.bits19 (fun HT_ HW_ => ?_)
               generalize wr.drew = w49 at HO_14 BK632 HB hx650_0 hx650_1 hx651_0 hx651_1 hHeld ⊢
               refine pure_ (i := 0) (N := some 72) (v := ?_) (a' := ?_) #[true, false, false, false, false, false, false, false, false, false, false, false, false, false, false] rfl rfl (any_of HT_.out (by kernel_rfl)) (fun _ _ _ h => h) (Or.inl ⟨by rfl, ?_⟩) ?_ ?_
               rotate_left
               ·
                intro w'
                go_simp
                with_reducible rfl
               rotate_left
               ·
                simp only [Act.put, List.setIfInBounds_toArray, List.set_cons_zero, List.set_cons_succ, i64_w, i32_w]
                rfl
               refine pure_ (i := 1) (N := some 73) (v := ?_) (a' := ?_) #[true, true, false, false, false, false, false, false, false, false, false, false, false, false, false] rfl rfl (any_of HT_.out (by kernel_rfl)) (fun _ _ _ h => h) (Or.inl ⟨by rfl, ?_⟩) ?_ ?_
               rotate_left
               ·
                intro w'
                go_simp
                with_reducible rfl
               rotate_left
               ·
                simp only [Act.put, List.setIfInBounds_toArray, List.set_cons_zero, List.set_cons_succ, i64_w, i32_w]
                rfl
               refine pure_ (i := 2) (N := some 74) (v := ?_) (a' := ?_) #[true, true, true, false, false, false, false, false, false, false, false, false, false, false, false] rfl rfl (any_of HT_.out (by kernel_rfl)) (fun _ _ _ h => h) (Or.inl ⟨by rfl, ?_⟩) ?_ ?_
               rotate_left
               ·
                intro w'
                go_simp
                with_reducible rfl
               rotate_left
               ·
                simp only [Act.put, List.setIfInBounds_toArray, List.set_cons_zero, List.set_cons_succ, i64_w, i32_w]
                rfl
               refine pure_ (i := 3) (N := some 75) (v := ?_) (a' := ?_) #[true, true, true, true, false, false, false, false, false, false, false, false, false, false, false] rfl rfl (any_of HT_.out (by kernel_rfl)) (fun _ _ _ h => h) (Or.inl ⟨by rfl, ?_⟩) ?_ ?_
               rotate_left
               ·
                intro w'
                go_simp
                with_reducible rfl
               rotate_left
               ·
                simp only [Act.put, List.setIfInBounds_toArray, List.set_cons_zero, List.set_cons_succ, i64_w, i32_w]
                rfl
               refine pure_ (i := 4) (N := some 76) (v := ?_) (a' := ?_) #[true, true, true, true, true, false, false, false, false, false, false, false, false, false, false] rfl rfl (any_of HT_.out (by kernel_rfl)) (fun _ _ _ h => h) (Or.inl ⟨by rfl, ?_⟩) ?_ ?_
               rotate_left
               ·
                intro w'
                go_simp
                with_reducible rfl
               rotate_left
               ·
                simp only [Act.put, List.setIfInBounds_toArray, List.set_cons_zero, List.set_cons_succ, i64_w, i32_w]
                rfl
               refine pure_ (i := 7) (N := some 79) (v := ?_) (a' := ?_) #[true, true, true, true, true, false, false, true, false, false, false, false, false, false, false] rfl rfl (any_of HT_.out (by kernel_rfl)) (fun _ _ _ h => h) (Or.inl ⟨by rfl, ?_⟩) ?_ ?_
               rotate_left
               ·
                intro w'
                go_simp
                with_reducible rfl
               rotate_left
               ·
                simp only [Act.put, List.setIfInBounds_toArray, List.set_cons_zero, List.set_cons_succ, i64_w, i32_w]
                rfl
               refine pure_ (i := 8) (N := some 80) (v := ?_) (a' := ?_) #[true, true, true, true, true, false, false, true, true, false, false, false, false, false, false] rfl rfl (any_of HT_.out (by kernel_rfl)) (fun _ _ _ h => h) (Or.inl ⟨by rfl, ?_⟩) ?_ ?_
               rotate_left
               ·
                intro w'
                go_simp
                with_reducible rfl
               rotate_left
               ·
                simp only [Act.put, List.setIfInBounds_toArray, List.set_cons_zero, List.set_cons_succ, i64_w, i32_w]
                rfl
               refine pure_ (i := 9) (N := some 81) (v := ?_) (a' := ?_) #[true, true, true, true, true, false, false, true, true, true, false, false, false, false, false] rfl rfl (any_of HT_.out (by kernel_rfl)) (fun _ _ _ h => h) (Or.inl ⟨by rfl, ?_⟩) ?_ ?_
               rotate_left
               ·
                intro w'
                go_simp
                with_reducible rfl
               rotate_left
               ·
                simp only [Act.put, List.setIfInBounds_toArray, List.set_cons_zero, List.set_cons_succ, i64_w, i32_w]
                rfl
               refine pure_ (i := 12) (N := some 84) (v := ?_) (a' := ?_) #[true, true, true, true, true, false, false, true, true, true, false, false, true, false, false] rfl rfl (any_of HT_.out (by kernel_rfl)) (fun _ _ _ h => h) (Or.inl ⟨by rfl, ?_⟩) ?_ ?_
               rotate_left
               ·
                intro w'
                go_simp
                with_reducible rfl
               rotate_left
               ·
                simp only [Act.put, List.setIfInBounds_toArray, List.set_cons_zero, List.set_cons_succ, i64_w, i32_w]
                rfl
               refine take_ (i := 5) (N := some 77) (v := ?_) (a' := ?_) #[true, true, true, true, true, true, false, true, true, true, false, false, true, false, false] rfl rfl (take_ofW HT_.out HW_.out (by kernel_rfl)) (fun _ _ _ h => h) (Or.inl ⟨by rfl, ?_⟩) hHeld ?_ ?_
               rotate_left
               ·
                rintro w' ⟨s0, s1, s2, s3⟩
                go_simp
                with_reducible rfl
               rotate_left
               ·
                simp only [Act.put, List.setIfInBounds_toArray, List.set_cons_zero, List.set_cons_succ, i64_w, i32_w]
                rfl
               refine pure_ (i := 6) (N := some 78) (v := ?_) (a' := ?_) #[true, true, true, true, true, true, true, true, true, true, false, false, true, false, false] rfl rfl (any_of HT_.out (by kernel_rfl)) (fun _ _ _ h => h) (Or.inl ⟨by rfl, ?_⟩) ?_ ?_
               rotate_left
               ·
                intro w'
                go_simp
                with_reducible rfl
               rotate_left
               ·
                simp only [Act.put, List.setIfInBounds_toArray, List.set_cons_zero, List.set_cons_succ, i64_w, i32_w]
                rfl
               refine take_ (i := 10) (N := some 82) (v := ?_) (a' := ?_) #[true, true, true, true, true, true, true, true, true, true, true, false, true, false, false] rfl rfl (take_ofW HT_.out HW_.out (by kernel_rfl)) (fun _ _ _ h => h) (Or.inl ⟨by rfl, ?_⟩) hHeld ?_ ?_
               rotate_left
               ·
                rintro w' ⟨s0, s1, s2, s3⟩
                go_simp
                with_reducible rfl
               rotate_left
               ·
                simp only [Act.put, List.setIfInBounds_toArray, List.set_cons_zero, List.set_cons_succ, i64_w, i32_w]
                rfl
               refine pure_ (i := 11) (N := some 83) (v := ?_) (a' := ?_) #[true, true, true, true, true, true, true, true, true, true, true, true, true, false, false] rfl rfl (any_of HT_.out (by kernel_rfl)) (fun _ _ _ h => h) (Or.inl ⟨by rfl, ?_⟩) ?_ ?_
               rotate_left
               ·
                intro w'
                go_simp
                with_reducible rfl
               rotate_left
               ·
                simp only [Act.put, List.setIfInBounds_toArray, List.set_cons_zero, List.set_cons_succ, i64_w, i32_w]
                rfl
               refine one_ (i := 13) (N := some 85) #[true, true, true, true, true, true, true, true, true, true, true, true, true, true, false] rfl rfl (one_of HT_.out (by kernel_rfl)) (by decide) (fun K hK => ?_)
               refine goes_ Tryd.func31 (by kernel_rfl) rfl #[.slice A1 l1.length c1, .slice A2 l2.length c2, .bool (((rd_T27 l3 0).f1) == 1), .bool (((rd_T27 l3 1).f1) == 1), .int .i64 a4] (by rfl) rfl rfl aeq ?_
               with_reducible refine (plenumref21_Steps.calls _ _ l1 _ _ l2 (((rd_T27 l3 0).f1) == 1) (((rd_T27 l3 1).f1) == 1) a4 t652 _ ?side1 ?side2 ?side3 ?side4 A47.out).mono ?_
               (case side1 => repeat (first | exact (Kd.C_below HR1.out HB.out) | (with_reducible refine Kd.C_alloc ?_ _) | (with_reducible refine Kd.C_drewN ?_ _) | (with_reducible refine Kd.C_drew ?_)))
               (case side2 => exact HC1.out)
               (case side3 => repeat (first | exact (Kd.C_below HR2.out HB.out) | (with_reducible refine Kd.C_alloc ?_ _) | (with_reducible refine Kd.C_drewN ?_ _) | (with_reducible refine Kd.C_drew ?_)))
               (case side4 => exact HC2.out)
               rintro e w50 ⟨v653, rfl, ho0, hb⟩
               refine ⟨_, rfl, ?_⟩
               have n0_ := Aside0.mk (Kd.R_below (by (with_reducible repeat (first | apply Kd.R_alloc | apply Kd.R_drewN | apply Kd.R_drew)); exact HO_14.out) hb)
               have n1_ := Aside0.mk (Kd.R_lower ho0 (below_size (by repeat (first | (with_reducible first | exact HB.out | apply below_alloc | apply pw_below_drewN | apply below_drew1 | refine below_set ?_ GE632.out) | exact HB.out))))
               have n2_ := Aside0.mk (blk_below (g := gb632) (o := .cells #[.int .i64 x633000_3, .int .i64 x633001_3] 27 (0, 0)) (by (with_reducible repeat (first | refine blk_drewN ?_ _ | refine blk_drew ?_ | refine blk_alloc ?_ _)); exact BK632.out) hb)
               have n3_ := Aside0.mk (below_step (by repeat (first | (with_reducible first | exact HB.out | apply below_alloc | apply pw_below_drewN | apply below_drew1 | refine below_set ?_ GE632.out) | exact HB.out)) hb)
               clear HO_14
               clear BK632
               clear HB
               have HO_14 := n0_
               have HO654 := n1_
               have BK632 := n2_
               have HB := n3_
               clear n0_ n1_ n2_ n3_
               (try clear hb)
               (try clear hb2)
               (try clear hk)
               (try clear hi)
               (try clear ho0)
               refine hK.out _ _ ⟨((HB.out.cell (World.block_lt_of_cell? w _ hw650_0)).trans hw650_0), ((HB.out.cell (World.block_lt_of_cell? w _ hw650_1)).trans hw650_1), ((HB.out.cell (World.block_lt_of_cell? w _ hw651_0)).trans hw651_0), ((HB.out.cell (World.block_lt_of_cell? w _ hw651_1)).trans hw651_1)⟩ (fun hHeld => ?_)
               clear hK K
               refine norm_ (a' := ?_) ?_ ?_
               rotate_left
               ·
                show Act.put _ (some 85) _ = _
                simp only [Act.put, List.setIfInBounds_toArray, List.set_cons_zero, List.set_cons_succ, i64_w, i32_w]
                rfl
               refine pure_ (i := 14) (N := some 16) (v := ?_) (a' := ?_) #[true, true, true, true, true, true, true, true, true, true, true, true, true, true, true] rfl rfl (any_of HT_.out (by kernel_rfl)) (fun _ _ _ h => h) (Or.inl ⟨by rfl, ?_⟩) ?_ ?_
               rotate_left
               ·
                intro w'
                go_simp
                with_reducible rfl
               rotate_left
               ·
                simp only [Act.put, List.setIfInBounds_toArray, List.set_cons_zero, List.set_cons_succ, i64_w, i32_w]
                rfl
               refine done_ (done_of HT_.out (by kernel_rfl)) ?_
               try go_wp2
               have n0_ := Aside0.mk (Kd.R_drew HO_14.out)
               have n1_ := Aside0.mk (Kd.R_drew HO654.out)
               have n2_ := Aside0.mk (blk_drew BK632.out)
               have n3_ := Aside0.mk (below_drew1 HB.out)
               clear HO_14
               clear HO654
               clear BK632
               clear HB
               have HO_14 := n0_
               have HO654 := n1_
               have BK632 := n2_
               have HB := n3_
               clear n0_ n1_ n2_ n3_
               obtain ⟨Ao52, co52, eo52⟩ := Kd.R_slice HO654.out
               (first | subst eo52 | (injection eo52 with f1_ f2_ f3_; have f4_ := f1_.symm; have f5_ := f3_.symm; clear f1_ f2_ f3_; subst f4_; subst f5_))
               have p655 : 0 ≤ (0 : Int) := (by omega)
               have q655 : 0 < (t652.length : Int) := ode
               obtain ⟨ad655, e655, hx655_0⟩ := Kd.at_int (Kd.R_reads' HO654.out).2.2 0 p655 q655
               cases e655
               have qi655 : (0 < t652.length) = True := eq_true (by omega)
               (try rw [show ((0 : Int)).toNat = 0 from rfl] at hx655_0)
               (try rw [Addr.add_zero'] at hx655_0)
               replace p655 := eq_true p655
               replace q655 := eq_true q655
               refine start_ (n := 9) (S := fun w' => w'.cell? ad655 = some (.int .i64 (rd t652 0))) (ds := []) #[false, false, false, false, false, false, false, false, false] (by kernel_rfl) rfl rfl (hx655_0) (fun hHeld => ?_); refine with_tabW plenumref21_Step.tab20 plenumref21_Step.bits20 (fun HT_ HW_ => ?_)
               generalize w50.drew = w51 at HO_14 HO654 BK632 HB hx655_0 hHeld ⊢
               refine pure_ (i := 0) (N := some 86) (v := ?_) (a' := ?_) #[true, false, false, false, false, false, false, false, false] rfl rfl (any_of HT_.out (by kernel_rfl)) (fun _ _ _ h => h) (Or.inl ⟨by rfl, ?_⟩) ?_ ?_
               rotate_left
               ·
                intro w'
                go_simp
                with_reducible rfl
               rotate_left
               ·
                simp only [Act.put, List.setIfInBounds_toArray, List.set_cons_zero, List.set_cons_succ, i64_w, i32_w]
                rfl
               refine pure_ (i := 1) (N := some 87) (v := ?_) (a' := ?_) #[true, true, false, false, false, false, false, false, false] rfl rfl (any_of HT_.out (by kernel_rfl)) (fun _ _ _ h => h) (Or.inl ⟨by rfl, ?_⟩) ?_ ?_
               rotate_left
               ·
                intro w'
                go_simp
                with_reducible rfl
               rotate_left
               ·
                simp only [Act.put, List.setIfInBounds_toArray, List.set_cons_zero, List.set_cons_succ, i64_w, i32_w]
                rfl
               refine pure_ (i := 2) (N := some 88) (v := ?_) (a' := ?_) #[true, true, true, false, false, false, false, false, false] rfl rfl (any_of HT_.out (by kernel_rfl)) (fun _ _ _ h => h) (Or.inl ⟨by rfl, ?_⟩) ?_ ?_
               rotate_left
               ·
                intro w'
                go_simp
                with_reducible rfl
               rotate_left
               ·
                simp only [Act.put, List.setIfInBounds_toArray, List.set_cons_zero, List.set_cons_succ, i64_w, i32_w]
                rfl
               refine pure_ (i := 6) (N := some 10) (v := ?_) (a' := ?_) #[true, true, true, false, false, false, true, false, false] rfl rfl (any_of HT_.out (by kernel_rfl)) (fun _ _ _ h => h) (Or.inl ⟨by rfl, ?_⟩) ?_ ?_
               rotate_left
               ·
                intro w'
                go_simp
                with_reducible rfl
               rotate_left
               ·
                simp only [Act.put, List.setIfInBounds_toArray, List.set_cons_zero, List.set_cons_succ, i64_w, i32_w]
                rfl
               refine take_ (i := 3) (N := some 89) (v := ?_) (a' := ?_) #[true, true, true, true, false, false, true, false, false] rfl rfl (take_ofW HT_.out HW_.out (by kernel_rfl)) (fun _ _ _ h => h) (Or.inl ⟨by rfl, ?_⟩) hHeld ?_ ?_
               rotate_left
               ·
                intro w' s0
                go_simp
                with_reducible rfl
               rotate_left
               ·
                simp only [Act.put, List.setIfInBounds_toArray, List.set_cons_zero, List.set_cons_succ, i64_w, i32_w]
                rfl
               refine pure_ (i := 4) (N := some 90) (v := ?_) (a' := ?_) #[true, true, true, true, true, false, true, false, false] rfl rfl (any_of HT_.out (by kernel_rfl)) (fun _ _ _ h => h) (Or.inl ⟨by rfl, ?_⟩) ?_ ?_
               rotate_left
               ·
                intro w'
                go_simp
                with_reducible rfl
               rotate_left
               ·
                simp only [Act.put, List.setIfInBounds_toArray, List.set_cons_zero, List.set_cons_succ, i64_w, i32_w]
                rfl
               refine pure_ (i := 5) (N := some 91) (v := ?_) (a' := ?_) #[true, true, true, true, true, true, true, false, false] rfl rfl (any_of HT_.out (by kernel_rfl)) (fun _ _ _ h => h) (Or.inl ⟨by rfl, ?_⟩) ?_ ?_
               rotate_left
               ·
                intro w'
                go_simp
                with_reducible rfl
               rotate_left
               ·
                simp only [Act.put, List.setIfInBounds_toArray, List.set_cons_zero, List.set_cons_succ, i64_w, i32_w]
                rfl
               refine one_ (i := 7) (N := none) #[true, true, true, true, true, true, true, true, false] rfl rfl (one_of HT_.out (by kernel_rfl)) (by decide) (fun K hK => ?_)
               have hs53 : w51.cell? ⟨gb632, 0, none⟩ = some (.int .i64 x633000_3) := (blk_cell BK632.out 0).trans rfl
               have hfs53 := blk_frozen BK632.out 0
               have hs54 : w51.cell? ⟨gb632, 1, none⟩ = some (.int .i64 x633001_3) := (blk_cell BK632.out 1).trans rfl
               have hfs54 := blk_frozen BK632.out 1
               refine skip_ (w1 := ?_) (by rfl) rfl ?_ ?_
               rotate_left
               ·
                go_simp
                rfl
               refine hK.out _ _ (((cell_far (p := ⟨gb632, _, none⟩) (by first | exact Kd.own_blk (Kd.R_ne HO654.out BK632.out (by decide)) | (rw [add_block]; exact Kd.own_blk (Kd.R_ne HO654.out BK632.out (by decide))) | (show (Addr.add _ _).block ≠ _; rw [add_block]; exact Kd.own_blk (Kd.R_ne HO654.out BK632.out (by decide))) | (dsimp only; exact Kd.own_blk (Kd.R_ne HO654.out BK632.out (by decide)))) _).trans (((cell_far (p := ⟨gb632, _, none⟩) (by first | exact Kd.own_blk (Kd.R_ne HO654.out BK632.out (by decide)) | (rw [add_block]; exact Kd.own_blk (Kd.R_ne HO654.out BK632.out (by decide))) | (show (Addr.add _ _).block ≠ _; rw [add_block]; exact Kd.own_blk (Kd.R_ne HO654.out BK632.out (by decide))) | (dsimp only; exact Kd.own_blk (Kd.R_ne HO654.out BK632.out (by decide)))) _).trans (hHeld))))) (fun hHeld => ?_)
               clear hK K
               refine pure_ (i := 8) (N := some 12) (v := ?_) (a' := ?_) #[true, true, true, true, true, true, true, true, true] rfl rfl (any_of HT_.out (by kernel_rfl)) (fun _ _ _ h => h) (Or.inl ⟨by rfl, ?_⟩) ?_ ?_
               rotate_left
               ·
                intro w'
                go_simp
                with_reducible rfl
               rotate_left
               ·
                simp only [Act.put, List.setIfInBounds_toArray, List.set_cons_zero, List.set_cons_succ, i64_w, i32_w]
                rfl
               refine done_ (done_of HT_.out (by kernel_rfl)) ?_
               try go_wp2
               refine bodyPost_ret (results_list (rs := [.tmp 10, .cell 11 27, .tmp 12]) rfl (by simp) (.tmp (.cell gb632 27 #[.int .i64 3, .int .i64 (wrap64 ((rd t652 0) + 1))] (0, 0) _ rfl (by (with_reducible repeat (first | refine blk_drewN ?_ _ | refine blk_drew ?_ | refine blk_alloc ?_ _)); refine blk_put (cs := #[.int .i64 3, .int .i64 x633001_3]) ?_ 1 _ rfl; (with_reducible repeat (first | refine blk_drewN ?_ _ | refine blk_drew ?_ | refine blk_alloc ?_ _)); refine blk_put (cs := #[.int .i64 x633000_3, .int .i64 x633001_3]) ?_ 0 _ rfl; (with_reducible repeat (first | refine blk_drewN ?_ _ | refine blk_drew ?_ | refine blk_alloc ?_ _)); exact BK632.out) Tryd.underlying27 rfl (by kernel_rfl) (.tmp .nil)))) rfl ?_
               exact ⟨_, by first | rfl | (simp [errW_none, errW_some] <;> rfl) | (simp [*, errW_none, errW_some] <;> rfl), by (with_reducible repeat (first | apply Kd.R_alloc | apply Kd.R_drewN | apply Kd.R_drew)); exact Kd.R_mono (Kd.R_far (p := ⟨gb632, 1, none⟩) (Kd.R_far (p := ⟨gb632, 0, none⟩) (Kd.R_types HO654.out BK632.out (by decide)) (fun _ hk => hk.2) (.int .i64 3)) (fun _ hk => hk.2) (.int .i64 (wrap64 ((rd t652 0) + 1)))) (fun _ hk => trivial), by repeat (first | (with_reducible first | exact HB.out | apply below_alloc | apply pw_below_drewN | apply below_drew1 | refine below_set ?_ GE632.out) | exact HB.out)⟩
              ·
               rw [if_neg c48] at H
               exact absurd H (by simp)
             ·
              rw [if_neg c46] at H
              exact absurd H (by simp)
            ·
             rw [if_neg c45] at H
             exact absurd H (by simp)
          ·
           replace c35 := Bool.eq_false_iff.mpr c35
           subst c35
           rw [if_neg (show ¬ (false = true) by decide)] at H
           simp only [Option.some.injEq, Prod.mk.injEq] at H
           obtain ⟨rfl, rfl, rfl, rfl⟩ := H
           go_wp2_with (first | ((with_reducible refine gate_callee (f := 18) rfl ?_); refine goesL_ (some 59) rfl rfl Tryd.func18 (by kernel_rfl) rfl #[.string a0, .slice A1 l1.length c1, .slice A2 l2.length c2] rfl aeq ?_; (with_reducible refine (plenumref21_State.calls k3 a0 _ _ l1 _ _ l2 false _ ?side1 ?side2 ?side3 ?side4 A34.out).mono ?_); (case side1 => repeat (first | exact (Kd.C_below HR1.out HB.out) | (with_reducible refine Kd.C_alloc ?_ _) | (with_reducible refine Kd.C_drewN ?_ _) | (with_reducible refine Kd.C_drew ?_))); (case side2 => exact HC1.out); (case side3 => repeat (first | exact (Kd.C_below HR2.out HB.out) | (with_reducible refine Kd.C_alloc ?_ _) | (with_reducible refine Kd.C_drewN ?_ _) | (with_reducible refine Kd.C_drew ?_))); (case side4 => exact HC2.out); rintro e w' ⟨rfl, ⟨nd, rfl⟩⟩; refine ⟨_, rfl, ?_⟩; (try (rw [drewN_self wr]; generalize hq_ : World.drewN wr _ = wr; have n0_ : Aside0 (Kd.R (Kd.int .i64) 3 wr w.heap.size (fun _ => True) u14 x14_7) := ⟨by rw [← hq_]; exact (by (with_reducible repeat (first | apply Kd.R_alloc | apply Kd.R_drewN | apply Kd.R_drew)); exact HO_14.out)⟩; have n1_ : Aside0 (wr.heap[gb632]? = some (.cells #[.int .i64 x633000_3, .int .i64 x633001_3] 27 (0, 0))) := ⟨by rw [← hq_]; exact (by (with_reducible repeat (first | refine blk_drewN ?_ _ | refine blk_drew ?_ | refine blk_alloc ?_ _)); exact BK632.out)⟩; have n2_ : Aside0 (Below w.heap.size w wr) := ⟨by rw [← hq_]; exact (by repeat (first | (with_reducible first | exact HB.out | apply below_alloc | apply pw_below_drewN | apply below_drew1 | refine below_set ?_ GE632.out) | exact HB.out))⟩; clear HO_14 BK632 HB hq_; have HO_14 := n0_; have BK632 := n1_; have HB := n2_; clear n0_ n1_ n2_)); have hcz55_0 : wr.cell? ⟨gb632, 0, none⟩ = some (.int .i64 x633000_3) := (blk_cell BK632.out 0).trans rfl; have hcz55_1 : wr.cell? ⟨gb632, 1, none⟩ = some (.int .i64 x633001_3) := (blk_cell BK632.out 1).trans rfl; have hfz55_0 := blk_frozen BK632.out 0; have hfz55_1 := blk_frozen BK632.out 1))
           refine bodyPost_ret (results_list (rs := [.tmp 10, .cell 11 27, .tmp 12]) rfl (by simp) (.tmp (.cell gb632 27 #[.int .i64 0, .int .i64 0] (0, 0) _ rfl (by (with_reducible repeat (first | refine blk_drewN ?_ _ | refine blk_drew ?_ | refine blk_alloc ?_ _)); refine blk_put (cs := #[.int .i64 0, .int .i64 x633001_3]) ?_ 1 _ rfl; (with_reducible repeat (first | refine blk_drewN ?_ _ | refine blk_drew ?_ | refine blk_alloc ?_ _)); refine blk_put (cs := #[.int .i64 x633000_3, .int .i64 x633001_3]) ?_ 0 _ rfl; (with_reducible repeat (first | refine blk_drewN ?_ _ | refine blk_drew ?_ | refine blk_alloc ?_ _)); exact BK632.out) Tryd.underlying27 rfl (by kernel_rfl) (.tmp .nil)))) rfl ?_
           exact ⟨_, by first | rfl | (simp [errW_none, errW_some] <;> rfl) | (simp [*, errW_none, errW_some] <;> rfl), by first | exact Kd.R_nil _ _ _ _ _ | exact Kd.R_nil _ _ _ 0 _ | exact Kd.N_nil _ _ _ _ _ | exact Kd.V_nil _ _ _ _ _ | exact Kd.Q_nil _ _ _ _ _ | exact Kd.S_nil _ _ _ _ _, by repeat (first | (with_reducible first | exact HB.out | apply below_alloc | apply pw_below_drewN | apply below_drew1 | refine below_set ?_ GE632.out) | exact HB.out)⟩
 ·
  rw [if_neg c7] at H
  have c7b0 : (t633 == 0) = false := beq_eq_false_iff_ne.mpr c7
  have c7b1 : (t633 != 0) = true := bne_iff_ne.mpr c7
  simp only [Option.some.injEq, Prod.mk.injEq] at H
  obtain ⟨rfl, rfl, rfl, rfl⟩ := H
  go_enter Tryd.func12, Tryd.ntmps12
  go_wp2_with (first | ((with_reducible refine gate_dst (N := 11) rfl ?_); (try (refine gate_guard (by rfl) ?_; dsimp only)); refine box_event ?hg (N := 11) ?hd (cs := #[.int .i64 0, .int .i64 0]) (t := 27) ?hr ?_; (case hd => rfl); (case hg => rfl); (case hr => first | (go_simp; done) | (go_simp; rfl)); intro gb632 hg w56 hbox hb; have n0_ := Aside0.mk (below_step bl hb); have n1_ := Aside0.mk (hbox); have n2_ := Aside0.mk ((by rw [hg]; exact (below_size bl) : w.heap.size ≤ gb632)); have n3_ := Aside0.mk ((by rw [hg]; exact (below_size bl) : w.heap.size ≤ gb632)); clear HB; have HB := n0_; have BK632 := n1_; have GW632 := n2_; have GE632 := n3_; clear n0_ n1_ n2_ n3_; clear hb hbox hg) | ((with_reducible refine gate_callee (f := 15) rfl ?_); refine goesL_ (some 19) rfl rfl Tryd.func15 (by kernel_rfl) rfl #[.string a0, .slice A1 l1.length c1] rfl aeq ?_; (with_reducible refine (plenumref21_Check.calls k a0 _ _ l1 t633 _ ?side1 ?side2 A6.out).mono ?_); (case side1 => repeat (first | exact (Kd.C_below HR1.out HB.out) | (with_reducible refine Kd.C_alloc ?_ _) | (with_reducible refine Kd.C_drewN ?_ _) | (with_reducible refine Kd.C_drew ?_))); (case side2 => exact HC1.out); rintro e w57 ⟨rfl, hb⟩; refine ⟨_, rfl, ?_⟩; have n0_ := Aside0.mk (blk_below (g := gb632) (o := .cells #[.int .i64 0, .int .i64 0] 27 (0, 0)) (by (with_reducible repeat (first | refine blk_drewN ?_ _ | refine blk_drew ?_ | refine blk_alloc ?_ _)); exact BK632.out) hb); have n1_ := Aside0.mk (below_step (by repeat (first | (with_reducible first | exact HB.out | apply below_alloc | apply pw_below_drewN | apply below_drew1 | refine below_set ?_ GE632.out) | exact HB.out)) hb); clear BK632; clear HB; have BK632 := n0_; have HB := n1_; clear n0_ n1_; (try clear hb); (try clear hb2); (try clear hk); (try clear hi); have hcz58_0 : w57.cell? ⟨gb632, 0, none⟩ = some (.int .i64 0) := (blk_cell BK632.out 0).trans rfl; have hcz58_1 : w57.cell? ⟨gb632, 1, none⟩ = some (.int .i64 0) := (blk_cell BK632.out 1).trans rfl; have hfz58_0 := blk_frozen BK632.out 0; have hfz58_1 := blk_frozen BK632.out 1))
  refine bodyPost_ret (results_list (rs := [.tmp 10, .cell 11 27, .tmp 12]) rfl (by simp) (.tmp (.cell gb632 27 #[.int .i64 0, .int .i64 0] (0, 0) _ rfl (by (with_reducible repeat (first | refine blk_drewN ?_ _ | refine blk_drew ?_ | refine blk_alloc ?_ _)); refine blk_put (cs := #[.int .i64 0, .int .i64 0]) ?_ 1 _ rfl; (with_reducible repeat (first | refine blk_drewN ?_ _ | refine blk_drew ?_ | refine blk_alloc ?_ _)); refine blk_put (cs := #[.int .i64 0, .int .i64 0]) ?_ 0 _ rfl; (with_reducible repeat (first | refine blk_drewN ?_ _ | refine blk_drew ?_ | refine blk_alloc ?_ _)); exact BK632.out) Tryd.underlying27 rfl (by kernel_rfl) (.tmp .nil)))) rfl ?_
  exact ⟨_, by first | rfl | (simp [errW_none, errW_some] <;> rfl) | (simp [*, errW_none, errW_some] <;> rfl), by first | exact Kd.R_nil _ _ _ _ _ | exact Kd.R_nil _ _ _ 0 _ | exact Kd.N_nil _ _ _ _ _ | exact Kd.V_nil _ _ _ _ _ | exact Kd.Q_nil _ _ _ _ _ | exact Kd.S_nil _ _ _ _ _, by repeat (first | (with_reducible first | exact HB.out | apply below_alloc | apply pw_below_drewN | apply below_drew1 | refine below_set ?_ GE632.out) | exact HB.out)⟩

end Go.Proofs.YtcpncmjjbfbdhaaDoor.R
