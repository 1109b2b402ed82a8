-- Written by this claim's own program out of the translation; not trusted: Lean checks it.
import Derived.Test.YtcpncmjjbfbdhaaDoorRx0
namespace Go.Proofs.YtcpncmjjbfbdhaaDoor.R
open Go.RowKit Go.Proofs.YtcpncmjjbfbdhaaDoorW.PrintWords Go.Proofs.YtcpncmjjbfbdhaaDoorW.PrintLast Go.Proofs.YtcpncmjjbfbdhaaDoorW.PrintMore
attribute [local go_sem] max2_int min2_int max_two min_two max_three min_three max_four min_four   -- for this text's walks alone
set_option linter.unusedVariables false
set_option linter.unusedSimpArgs false

/-! ### sequencer_stage: function 26 -/
mutual
def sequencer_stage.j0 : Nat → Int → Int → Int → Int → Int → Int → Int → Bool → Option (List Int)
 | 0, _, _, _, _, _, _, _, _ => none
 | k + 1, x2, x3, x11, x12, x13, x14, x15, x37 => if x37 = true then (if (wrap64 ((mx x15 0) + x3)) ≥ x12 then (some (([wrap64 (x14 + 1), 0] : List Int))) else (some (([x14, mx (-6311433599) (mn 6311433599 (wrap64 ((mx x15 0) + x3)))] : List Int)))) else (if x2 < x11 then (sequencer_stage.j1 k x3 x13 x14 x15 (decide (x14 > 0))) else (sequencer_stage.j1 k x3 x13 x14 x15 false))
def sequencer_stage.j1 : Nat → Int → Int → Int → Int → Bool → Option (List Int)
 | 0, _, _, _, _, _ => none
 | k + 1, x3, x13, x14, x15, x55 => if x55 = true then (if (wrap64 (-(wrap64 ((mn x15 0) - x3)))) ≥ x13 then (some (([wrap64 (x14 - 1), 0] : List Int))) else (some (([x14, mx (-6311433599) (mn 6311433599 (wrap64 ((mn x15 0) - x3)))] : List Int)))) else (some (([x14, 0] : List Int)))
end
def sequencer_stage.f (k : Nat) (l0 : List Int) (l1 : List Int) (a2 : Int) (a3 : Int) : Option (List Int) := if 0 < (l0.length : Int) then (if 1 < (l0.length : Int) then (if 2 < (l0.length : Int) then (if 3 < (l0.length : Int) then (if 4 < (l0.length : Int) then (if 0 < (l1.length : Int) then (if 1 < (l1.length : Int) then (if a2 > (rd l0 1) then (sequencer_stage.j0 k a2 a3 (rd l0 2) (rd l0 3) (rd l0 4) (rd l1 0) (rd l1 1) (decide ((rd l1 0) < (rd l0 0)))) else (sequencer_stage.j0 k a2 a3 (rd l0 2) (rd l0 3) (rd l0 4) (rd l1 0) (rd l1 1) false)) else (none)) else (none)) else (none)) else (none)) else (none)) else (none)) else (none)
theorem sequencer_stage.mono_l : ∀ k, (∀ y0 y1 y2 y3 y4 y5 y6 y7, LeO (sequencer_stage.j0 k y0 y1 y2 y3 y4 y5 y6 y7) (sequencer_stage.j0 (k + 1) y0 y1 y2 y3 y4 y5 y6 y7)) ∧ (∀ y0 y1 y2 y3 y4, LeO (sequencer_stage.j1 k y0 y1 y2 y3 y4) (sequencer_stage.j1 (k + 1) y0 y1 y2 y3 y4))
 | 0 => ⟨fun _ _ _ _ _ _ _ _ r h => by simp [sequencer_stage.j0] at h, fun _ _ _ _ _ r h => by simp [sequencer_stage.j1] at h⟩
 | k + 1 => by
  obtain ⟨ih0, ih1⟩ := sequencer_stage.mono_l k
  refine ⟨?_, ?_⟩
  ·
   intro y0 y1 y2 y3 y4 y5 y6 y7
   unfold sequencer_stage.j0
   repeat' first
   | (with_reducible exact ih0 _ _ _ _ _ _ _ _)
   | (with_reducible exact ih1 _ _ _ _ _)
   | (with_reducible exact LeO.refl _)
   | (with_reducible exact LeO.none _)
   | (with_reducible refine LeO.ite ?_ ?_)
   | (with_reducible refine LeO.bind ?_ (fun _ => ?_))
   | exact ih0 _ _ _ _ _ _ _ _
   | exact ih1 _ _ _ _ _
   | exact LeO.none _
   | refine LeO.ite ?_ ?_
   | refine LeO.bind ?_ (fun _ => ?_)
  ·
   intro y0 y1 y2 y3 y4
   unfold sequencer_stage.j1
   repeat' first
   | (with_reducible exact ih0 _ _ _ _ _ _ _ _)
   | (with_reducible exact ih1 _ _ _ _ _)
   | (with_reducible exact LeO.refl _)
   | (with_reducible exact LeO.none _)
   | (with_reducible refine LeO.ite ?_ ?_)
   | (with_reducible refine LeO.bind ?_ (fun _ => ?_))
   | exact ih0 _ _ _ _ _ _ _ _
   | exact ih1 _ _ _ _ _
   | exact LeO.none _
   | refine LeO.ite ?_ ?_
   | refine LeO.bind ?_ (fun _ => ?_)
theorem sequencer_stage.mono : ∀ a0 a1 a2 a3 k, LeO (sequencer_stage.f k a0 a1 a2 a3) (sequencer_stage.f (k + 1) a0 a1 a2 a3) := by
 intro a0 a1 a2 a3 k
 obtain ⟨ih0, ih1⟩ := sequencer_stage.mono_l k
 unfold sequencer_stage.f
 repeat' first
   | (with_reducible exact ih0 _ _ _ _ _ _ _ _)
   | (with_reducible exact ih1 _ _ _ _ _)
   | (with_reducible exact LeO.refl _)
   | (with_reducible exact LeO.none _)
   | (with_reducible refine LeO.ite ?_ ?_)
   | (with_reducible refine LeO.bind ?_ (fun _ => ?_))
   | exact ih0 _ _ _ _ _ _ _ _
   | exact ih1 _ _ _ _ _
   | exact LeO.none _
   | refine LeO.ite ?_ ?_
   | refine LeO.bind ?_ (fun _ => ?_)
set_option maxHeartbeats 8000000 in
set_option maxRecDepth 100000 in
theorem sequencer_stage.calls (k : Nat) (A0 : Option Addr) (c0 : Nat) (l0 : List Int) (A1 : Option Addr) (c1 : Nat) (l1 : List Int) (a2 : Int) (a3 : Int) (r : List Int) (w : World) (hr0 : Kd.C (Kd.int .i64) w A0 l0.length l0) (hc0 : l0.length ≤ c0) (hr1 : Kd.C (Kd.int .i64) w A1 l1.length l1) (hc1 : l1.length ≤ c1) (h : sequencer_stage.f k l0 l1 a2 a3 = some r) :
  Calls Tryd.prog 26 #[.slice A0 l0.length c0, .slice A1 l1.length c1, .int .i64 a2, .int .i64 a3] w fun e w' => ∃ v0_ : Value, e = .returned (v0_) ∧ Kd.R (Kd.int .i64) 2 w' w.heap.size (fun _ => True) v0_ r ∧ Below w.heap.size w w' := by
 have HR0 := Aside0.mk hr0
 have HC0 := Aside0.mk hc0
 clear hr0 hc0
 have HR1 := Aside0.mk hr1
 have HC1 := Aside0.mk hc1
 clear hr1 hc1
 have HB := Aside0.mk (Below.refl w.heap.size w)
 have H : (if 0 < (l0.length : Int) then (if 1 < (l0.length : Int) then (if 2 < (l0.length : Int) then (if 3 < (l0.length : Int) then (if 4 < (l0.length : Int) then (if 0 < (l1.length : Int) then (if 1 < (l1.length : Int) then (if a2 > (rd l0 1) then (sequencer_stage.j0 k a2 a3 (rd l0 2) (rd l0 3) (rd l0 4) (rd l1 0) (rd l1 1) (decide ((rd l1 0) < (rd l0 0)))) else (sequencer_stage.j0 k a2 a3 (rd l0 2) (rd l0 3) (rd l0 4) (rd l1 0) (rd l1 1) false)) else (none)) else (none)) else (none)) else (none)) else (none)) else (none)) else (none)) = some r := h
 clear h
 by_cases c5 : 0 < (l0.length : Int)
 ·
  rw [if_pos c5] at H
  have c5b0 : decide (0 < (l0.length : Int)) = true := decide_eq_true c5
  have c5b1 : decide (0 < l0.length) = true := decide_eq_true (by omega)
  clear c5
  by_cases c6 : 1 < (l0.length : Int)
  ·
   rw [if_pos c6] at H
   have c6b0 : decide (1 < (l0.length : Int)) = true := decide_eq_true c6
   have c6b1 : decide (1 < l0.length) = true := decide_eq_true (by omega)
   clear c6
   by_cases c7 : 2 < (l0.length : Int)
   ·
    rw [if_pos c7] at H
    have c7b0 : decide (2 < (l0.length : Int)) = true := decide_eq_true c7
    have c7b1 : decide (2 < l0.length) = true := decide_eq_true (by omega)
    clear c7
    by_cases c8 : 3 < (l0.length : Int)
    ·
     rw [if_pos c8] at H
     have c8b0 : decide (3 < (l0.length : Int)) = true := decide_eq_true c8
     have c8b1 : decide (3 < l0.length) = true := decide_eq_true (by omega)
     clear c8
     by_cases c9 : 4 < (l0.length : Int)
     ·
      rw [if_pos c9] at H
      have c9b0 : decide (4 < (l0.length : Int)) = true := decide_eq_true c9
      have c9b1 : decide (4 < l0.length) = true := decide_eq_true (by omega)
      clear c9
      by_cases c10 : 0 < (l1.length : Int)
      ·
       rw [if_pos c10] at H
       have c10b0 : decide (0 < (l1.length : Int)) = true := decide_eq_true c10
       have c10b1 : decide (0 < l1.length) = true := decide_eq_true (by omega)
       clear c10
       by_cases c11 : 1 < (l1.length : Int)
       ·
        rw [if_pos c11] at H
        have c11b0 : decide (1 < (l1.length : Int)) = true := decide_eq_true c11
        have c11b1 : decide (1 < l1.length) = true := decide_eq_true (by omega)
        clear c11
        have HC12 := Aside0.mk H
        clear H
        have p197 : 0 ≤ (0 : Int) := (by omega)
        have q197 : 0 < (l0.length : Int) := ode
        obtain ⟨ad197, e197, hx197_0⟩ := Kd.at_int HR0.out 0 p197 q197
        cases e197
        have qi197 : (0 < l0.length) = True := eq_true (by omega)
        (try rw [show ((0 : Int)).toNat = 0 from rfl] at hx197_0)
        (try rw [Addr.add_zero'] at hx197_0)
        replace p197 := eq_true p197
        replace q197 := eq_true q197
        have p198 : 0 ≤ (1 : Int) := (by omega)
        have q198 : 1 < (l0.length : Int) := ode
        obtain ⟨ad198, e198, hx198_0⟩ := Kd.at_int HR0.out 1 p198 q198
        obtain rfl : ad197 = ad198 := (by injection e198)
        (try simp only [show (1 : Int).toNat = 1 from rfl, Nat.reduceMul, Nat.reduceEqDiff, Go.Addr.add, ↓reduceIte] at hx198_0)
        have qi198 : (1 < l0.length) = True := eq_true (by omega)
        (try rw [show ((1 : Int)).toNat = 1 from rfl] at hx198_0)
        replace p198 := eq_true p198
        replace q198 := eq_true q198
        have p199 : 0 ≤ (2 : Int) := (by omega)
        have q199 : 2 < (l0.length : Int) := ode
        obtain ⟨ad199, e199, hx199_0⟩ := Kd.at_int HR0.out 2 p199 q199
        obtain rfl : ad197 = ad199 := (by injection e199)
        (try simp only [show (2 : Int).toNat = 2 from rfl, Nat.reduceMul, Nat.reduceEqDiff, Go.Addr.add, ↓reduceIte] at hx199_0)
        have qi199 : (2 < l0.length) = True := eq_true (by omega)
        (try rw [show ((2 : Int)).toNat = 2 from rfl] at hx199_0)
        replace p199 := eq_true p199
        replace q199 := eq_true q199
        have p200 : 0 ≤ (3 : Int) := (by omega)
        have q200 : 3 < (l0.length : Int) := ode
        obtain ⟨ad200, e200, hx200_0⟩ := Kd.at_int HR0.out 3 p200 q200
        obtain rfl : ad197 = ad200 := (by injection e200)
        (try simp only [show (3 : Int).toNat = 3 from rfl, Nat.reduceMul, Nat.reduceEqDiff, Go.Addr.add, ↓reduceIte] at hx200_0)
        have qi200 : (3 < l0.length) = True := eq_true (by omega)
        (try rw [show ((3 : Int)).toNat = 3 from rfl] at hx200_0)
        replace p200 := eq_true p200
        replace q200 := eq_true q200
        have p201 : 0 ≤ (4 : Int) := (by omega)
        have q201 : 4 < (l0.length : Int) := ode
        obtain ⟨ad201, e201, hx201_0⟩ := Kd.at_int HR0.out 4 p201 q201
        obtain rfl : ad197 = ad201 := (by injection e201)
        (try simp only [show (4 : Int).toNat = 4 from rfl, Nat.reduceMul, Nat.reduceEqDiff, Go.Addr.add, ↓reduceIte] at hx201_0)
        have qi201 : (4 < l0.length) = True := eq_true (by omega)
        (try rw [show ((4 : Int)).toNat = 4 from rfl] at hx201_0)
        replace p201 := eq_true p201
        replace q201 := eq_true q201
        have p202 : 0 ≤ (0 : Int) := (by omega)
        have q202 : 0 < (l1.length : Int) := ode
        obtain ⟨ad202, e202, hx202_0⟩ := Kd.at_int HR1.out 0 p202 q202
        cases e202
        have qi202 : (0 < l1.length) = True := eq_true (by omega)
        (try rw [show ((0 : Int)).toNat = 0 from rfl] at hx202_0)
        (try rw [Addr.add_zero'] at hx202_0)
        replace p202 := eq_true p202
        replace q202 := eq_true q202
        have p203 : 0 ≤ (1 : Int) := (by omega)
        have q203 : 1 < (l1.length : Int) := ode
        obtain ⟨ad203, e203, hx203_0⟩ := Kd.at_int HR1.out 1 p203 q203
        obtain rfl : ad202 = ad203 := (by injection e203)
        (try simp only [show (1 : Int).toNat = 1 from rfl, Nat.reduceMul, Nat.reduceEqDiff, Go.Addr.add, ↓reduceIte] at hx203_0)
        have qi203 : (1 < l1.length) = True := eq_true (by omega)
        (try rw [show ((1 : Int)).toNat = 1 from rfl] at hx203_0)
        replace p203 := eq_true p203
        replace q203 := eq_true q203
        go_enter Tryd.func26, Tryd.ntmps26
        go_upto_region 4 with (fail)
        repeat (go_quiet (fail); go_upto_region 4 with (fail))
        go_cut [37] (fun v37 wc => ∃ (kq : Nat) (x37_11 : Bool), v37 = .bool x37_11 ∧ Aside0 (sequencer_stage.j0 kq a2 a3 (rd l0 2) (rd l0 3) (rd l0 4) (rd l1 0) (rd l1 1) x37_11 = some r) ∧ Aside0 (kq ≤ k) ∧ Aside0 (Below w.heap.size w wc))
        case first =>
         have H := HC12.out
         clear HC12
         by_cases c13 : a2 > (rd l0 1)
         ·
          rw [if_pos c13] at H
          have c13b0 : decide ((rd l0 1) < a2) = true := decide_eq_true c13
          clear c13
          (first | rw [c13b0] | (simp only [i64_w, i32_w]; rw [c13b0]) | skip)
          have H' := Aside0.mk H
          clear H
          go_wp2
          repeat (go_quiet (fail); try go_wp2)
          go_meet
          case rel => exact ⟨_, (decide ((rd l1 0) < (rd l0 0))), (by first | rfl | (simp; done) | (simp [*]; done)), H', ⟨by first | omega | exact Nat.le_refl _⟩, ⟨bl⟩⟩
         ·
          rw [if_neg c13] at H
          have c13b0 : decide ((rd l0 1) < a2) = false := decide_eq_false c13
          clear c13
          (first | rw [c13b0] | (simp only [i64_w, i32_w]; rw [c13b0]) | skip)
          have H' := Aside0.mk H
          clear H
          go_wp2
          repeat (go_quiet (fail); try go_wp2)
          go_meet
          case rel => exact ⟨_, (false), (by first | rfl | (simp; done) | (simp [*]; done)), H', ⟨by first | omega | exact Nat.le_refl _⟩, ⟨bl⟩⟩
        case rest =>
         clear HC12
         try clear c1
         try clear p1
         try clear q1
         try clear hx1
         try clear qi1
         try clear c2
         try clear p2
         try clear q2
         try clear hx2
         try clear qi2
         try clear c5
         try clear c5b0
         try clear c5b1
         try clear c6
         try clear c6b0
         try clear c6b1
         try clear c7
         try clear c7b0
         try clear c7b1
         try clear c8
         try clear c8b0
         try clear c8b1
         try clear c9
         try clear c9b0
         try clear c9b1
         try clear c10
         try clear c10b0
         try clear c10b1
         try clear c11
         try clear c11b0
         try clear c11b1
         try clear c13
         try clear c13b0
         try clear hx197_0
         try clear hx198_0
         try clear hx199_0
         try clear hx200_0
         try clear hx201_0
         try clear hx202_0
         try clear hx203_0
         try clear p197
         try clear p198
         try clear p199
         try clear p200
         try clear p201
         try clear p202
         try clear p203
         try clear q197
         try clear q198
         try clear q199
         try clear q200
         try clear q201
         try clear q202
         try clear q203
         obtain ⟨kq, x37_11, rfl, HA, HJ11, HB⟩ := hcut
         cases kq with
         | zero => exact absurd HA.out (by simp [sequencer_stage.j0])
         | succ kj11 =>
          have H := HA.out
          clear HA
          simp only [sequencer_stage.j0] at H
          by_cases c14 : x37_11 = true
          ·
           subst c14
           rw [if_pos rfl] at H
           obtain ⟨ji15, hji15⟩ : ∃ j_ : Int, (mx (rd l1 1) 0) = j_ := ⟨_, rfl⟩
           replace H : (if (wrap64 ((ji15) + a3)) ≥ (rd l0 3) then (some (([wrap64 ((rd l1 0) + 1), 0] : List Int))) else (some (([(rd l1 0), mx (-6311433599) (mn 6311433599 (wrap64 ((ji15) + a3)))] : List Int)))) = some r := by first | (rw [hji15] at H; exact H) | (simp only [hji15] at H ⊢; exact H)
           have hji15_ : (if (rd l1 1) < 0 then 0 else (rd l1 1)) = ji15 := hji15
           by_cases c16 : (wrap64 ((ji15) + a3)) ≥ (rd l0 3)
           ·
            rw [if_pos c16] at H
            have c16b0 : decide ((rd l0 3) ≤ (wrap64 ((ji15) + a3))) = true := decide_eq_true c16
            clear c16
            obtain ⟨y204, hy204⟩ : ∃ y_ : List Int, y_ = (([wrap64 ((rd l1 0) + 1), 0] : List Int)) := ⟨_, rfl⟩
            replace H : (some y204) = some r := by first | (rw [hy204]; with_reducible exact H) | (have H2_ := (Option.bind_some _ _).symm.trans H; rw [hy204]; with_reducible exact H2_) | (have H2_ := (Option.bind_some _ _).symm.trans H; with_reducible exact H2_) | with_reducible exact H | (rw [hy204]; exact H) | exact H
            have Ny204 := Aside0.mk hy204
            clear hy204
            obtain rfl := Option.some.inj H
            go_wp2_with (first | ((with_reducible refine gate_dst (N := 77) rfl ?_); refine Kd.R_lit (Kd.int .i64) _ 2 ?hg (N := 77) ?hd (xs := ([wrap64 ((rd l1 0) + 1), 0] : List Int)) (inner := [.int .i64 (wrap64 ((rd l1 0) + 1)), .int .i64 0]) (ok := fun _ => True) (okp := fun _ => True) ?hr ?hp (fun _ hk => hk) trivial (Below.refl _ _) (Nat.le_refl _) (by simp) ?_; (case hd => rfl); (case hg => rfl); (case hr => first | (go_simp; done) | (go_simp; rfl)); (case hp => exact (Reps.one (show Kd.M (Kd.int .i64) _ _ _ (wrap64 ((rd l1 0) + 1)) [.int .i64 (wrap64 ((rd l1 0) + 1))] from rfl) (Reps.one (show Kd.M (Kd.int .i64) _ _ _ 0 [.int .i64 0] from rfl) (Reps.none _ _)))); intro v205 w17 ho18 hb hg_ hnew_; clear hg_ hnew_; (first | rw [← Ny204.out] at ho18 | (simp only [Int.reduceToNat] at ho18; rw [← Ny204.out] at ho18)); have n0_ := Aside0.mk (Kd.R_lower ho18 (below_size bl)); have n1_ := Aside0.mk (below_step bl hb); clear HB; have HO206 := n0_; have HB := n1_; clear n0_ n1_; clear hb ho18))
            repeat (go_quiet (first | ((with_reducible refine gate_dst (N := 77) rfl ?_); refine Kd.R_lit (Kd.int .i64) _ 2 ?hg (N := 77) ?hd (xs := ([wrap64 ((rd l1 0) + 1), 0] : List Int)) (inner := [.int .i64 (wrap64 ((rd l1 0) + 1)), .int .i64 0]) (ok := fun _ => True) (okp := fun _ => True) ?hr ?hp (fun _ hk => hk) trivial (Below.refl _ _) (Nat.le_refl _) (by simp) ?_; (case hd => rfl); (case hg => rfl); (case hr => first | (go_simp; done) | (go_simp; rfl)); (case hp => exact (Reps.one (show Kd.M (Kd.int .i64) _ _ _ (wrap64 ((rd l1 0) + 1)) [.int .i64 (wrap64 ((rd l1 0) + 1))] from rfl) (Reps.one (show Kd.M (Kd.int .i64) _ _ _ 0 [.int .i64 0] from rfl) (Reps.none _ _)))); intro v205 w17 ho18 hb hg_ hnew_; clear hg_ hnew_; (first | rw [← Ny204.out] at ho18 | (simp only [Int.reduceToNat] at ho18; rw [← Ny204.out] at ho18)); have n0_ := Aside0.mk (Kd.R_lower ho18 (below_size bl)); have n1_ := Aside0.mk (below_step bl hb); clear HB; have HO206 := n0_; have HB := n1_; clear n0_ n1_; clear hb ho18)); try go_wp2_with (first | ((with_reducible refine gate_dst (N := 77) rfl ?_); refine Kd.R_lit (Kd.int .i64) _ 2 ?hg (N := 77) ?hd (xs := ([wrap64 ((rd l1 0) + 1), 0] : List Int)) (inner := [.int .i64 (wrap64 ((rd l1 0) + 1)), .int .i64 0]) (ok := fun _ => True) (okp := fun _ => True) ?hr ?hp (fun _ hk => hk) trivial (Below.refl _ _) (Nat.le_refl _) (by simp) ?_; (case hd => rfl); (case hg => rfl); (case hr => first | (go_simp; done) | (go_simp; rfl)); (case hp => exact (Reps.one (show Kd.M (Kd.int .i64) _ _ _ (wrap64 ((rd l1 0) + 1)) [.int .i64 (wrap64 ((rd l1 0) + 1))] from rfl) (Reps.one (show Kd.M (Kd.int .i64) _ _ _ 0 [.int .i64 0] from rfl) (Reps.none _ _)))); intro v205 w17 ho18 hb hg_ hnew_; clear hg_ hnew_; (first | rw [← Ny204.out] at ho18 | (simp only [Int.reduceToNat] at ho18; rw [← Ny204.out] at ho18)); have n0_ := Aside0.mk (Kd.R_lower ho18 (below_size bl)); have n1_ := Aside0.mk (below_step bl hb); clear HB; have HO206 := n0_; have HB := n1_; clear n0_ n1_; clear hb ho18)))
            go_ret
            exact ⟨_, by first | rfl | (simp [errW_none, errW_some] <;> rfl) | (simp only [← hji15]; first | rfl | (simp [errW_none, errW_some] <;> rfl)) | (simp [*, errW_none, errW_some] <;> rfl), by (with_reducible repeat (first | apply Kd.R_alloc | apply Kd.R_drewN | apply Kd.R_drew)); exact HO206.out, bl⟩
           ·
            rw [if_neg c16] at H
            have c16b0 : decide ((rd l0 3) ≤ (wrap64 ((ji15) + a3))) = false := decide_eq_false c16
            clear c16
            obtain ⟨ji19, hji19⟩ : ∃ j_ : Int, (mn 6311433599 (wrap64 ((ji15) + a3))) = j_ := ⟨_, rfl⟩
            replace H : (some (([(rd l1 0), mx (-6311433599) (ji19)] : List Int))) = some r := by first | (rw [hji19] at H; exact H) | (simp only [hji19] at H ⊢; exact H)
            have hji19_ : (if (wrap64 ((ji15) + a3)) < 6311433599 then (wrap64 ((ji15) + a3)) else 6311433599) = ji19 := hji19
            obtain ⟨ji20, hji20⟩ : ∃ j_ : Int, (mx (-6311433599) (ji19)) = j_ := ⟨_, rfl⟩
            replace H : (some (([(rd l1 0), ji20] : List Int))) = some r := by first | (rw [hji20] at H; exact H) | (simp only [hji20] at H ⊢; exact H)
            have hji20_ : (if (-6311433599) < (ji19) then (ji19) else (-6311433599)) = ji20 := hji20
            obtain ⟨y207, hy207⟩ : ∃ y_ : List Int, y_ = (([(rd l1 0), ji20] : List Int)) := ⟨_, rfl⟩
            replace H : (some y207) = some r := by first | (rw [hy207]; with_reducible exact H) | (have H2_ := (Option.bind_some _ _).symm.trans H; rw [hy207]; with_reducible exact H2_) | (have H2_ := (Option.bind_some _ _).symm.trans H; with_reducible exact H2_) | with_reducible exact H | (rw [hy207]; exact H) | exact H
            have Ny207 := Aside0.mk hy207
            clear hy207
            obtain rfl := Option.some.inj H
            go_wp2_with (first | ((with_reducible refine gate_dst (N := 77) rfl ?_); refine Kd.R_lit (Kd.int .i64) _ 2 ?hg (N := 77) ?hd (xs := ([(rd l1 0), ji20] : List Int)) (inner := [.int .i64 (rd l1 0), .int .i64 ji20]) (ok := fun _ => True) (okp := fun _ => True) ?hr ?hp (fun _ hk => hk) trivial (Below.refl _ _) (Nat.le_refl _) (by simp) ?_; (case hd => rfl); (case hg => rfl); (case hr => first | (go_simp; done) | (go_simp; rfl)); (case hp => exact (Reps.one (show Kd.M (Kd.int .i64) _ _ _ (rd l1 0) [.int .i64 (rd l1 0)] from rfl) (Reps.one (show Kd.M (Kd.int .i64) _ _ _ ji20 [.int .i64 ji20] from rfl) (Reps.none _ _)))); intro v208 w21 ho22 hb hg_ hnew_; clear hg_ hnew_; (first | rw [← Ny207.out] at ho22 | (simp only [Int.reduceToNat] at ho22; rw [← Ny207.out] at ho22)); have n0_ := Aside0.mk (Kd.R_lower ho22 (below_size bl)); have n1_ := Aside0.mk (below_step bl hb); clear HB; have HO209 := n0_; have HB := n1_; clear n0_ n1_; clear hb ho22))
            repeat (go_quiet (first | ((with_reducible refine gate_dst (N := 77) rfl ?_); refine Kd.R_lit (Kd.int .i64) _ 2 ?hg (N := 77) ?hd (xs := ([(rd l1 0), ji20] : List Int)) (inner := [.int .i64 (rd l1 0), .int .i64 ji20]) (ok := fun _ => True) (okp := fun _ => True) ?hr ?hp (fun _ hk => hk) trivial (Below.refl _ _) (Nat.le_refl _) (by simp) ?_; (case hd => rfl); (case hg => rfl); (case hr => first | (go_simp; done) | (go_simp; rfl)); (case hp => exact (Reps.one (show Kd.M (Kd.int .i64) _ _ _ (rd l1 0) [.int .i64 (rd l1 0)] from rfl) (Reps.one (show Kd.M (Kd.int .i64) _ _ _ ji20 [.int .i64 ji20] from rfl) (Reps.none _ _)))); intro v208 w21 ho22 hb hg_ hnew_; clear hg_ hnew_; (first | rw [← Ny207.out] at ho22 | (simp only [Int.reduceToNat] at ho22; rw [← Ny207.out] at ho22)); have n0_ := Aside0.mk (Kd.R_lower ho22 (below_size bl)); have n1_ := Aside0.mk (below_step bl hb); clear HB; have HO209 := n0_; have HB := n1_; clear n0_ n1_; clear hb ho22)); try go_wp2_with (first | ((with_reducible refine gate_dst (N := 77) rfl ?_); refine Kd.R_lit (Kd.int .i64) _ 2 ?hg (N := 77) ?hd (xs := ([(rd l1 0), ji20] : List Int)) (inner := [.int .i64 (rd l1 0), .int .i64 ji20]) (ok := fun _ => True) (okp := fun _ => True) ?hr ?hp (fun _ hk => hk) trivial (Below.refl _ _) (Nat.le_refl _) (by simp) ?_; (case hd => rfl); (case hg => rfl); (case hr => first | (go_simp; done) | (go_simp; rfl)); (case hp => exact (Reps.one (show Kd.M (Kd.int .i64) _ _ _ (rd l1 0) [.int .i64 (rd l1 0)] from rfl) (Reps.one (show Kd.M (Kd.int .i64) _ _ _ ji20 [.int .i64 ji20] from rfl) (Reps.none _ _)))); intro v208 w21 ho22 hb hg_ hnew_; clear hg_ hnew_; (first | rw [← Ny207.out] at ho22 | (simp only [Int.reduceToNat] at ho22; rw [← Ny207.out] at ho22)); have n0_ := Aside0.mk (Kd.R_lower ho22 (below_size bl)); have n1_ := Aside0.mk (below_step bl hb); clear HB; have HO209 := n0_; have HB := n1_; clear n0_ n1_; clear hb ho22)))
            go_ret
            exact ⟨_, by first | rfl | (simp [errW_none, errW_some] <;> rfl) | (simp only [← hji15, ← hji19, ← hji20]; first | rfl | (simp [errW_none, errW_some] <;> rfl)) | (simp [*, errW_none, errW_some] <;> rfl), by (with_reducible repeat (first | apply Kd.R_alloc | apply Kd.R_drewN | apply Kd.R_drew)); exact HO209.out, bl⟩
          ·
           replace c14 := Bool.eq_false_iff.mpr c14
           subst c14
           rw [if_neg (show ¬ (false = true) by decide)] at H
           have HC23 := Aside0.mk H
           clear H
           go_upto_region 8 with (fail)
           repeat (go_quiet (fail); go_upto_region 8 with (fail))
           go_cut [55] (fun v55 wc => ∃ (kq : Nat) (x55_22 : Bool), v55 = .bool x55_22 ∧ Aside0 (sequencer_stage.j1 kq a3 (rd l0 4) (rd l1 0) (rd l1 1) x55_22 = some r) ∧ Aside0 (kq ≤ kj11) ∧ Aside0 (Below w.heap.size w wc))
           case first =>
            have H := HC23.out
            clear HC23
            by_cases c24 : a2 < (rd l0 2)
            ·
             rw [if_pos c24] at H
             have c24b0 : decide (a2 < (rd l0 2)) = true := decide_eq_true c24
             clear c24
             (first | rw [c24b0] | (simp only [i64_w, i32_w]; rw [c24b0]) | skip)
             have H' := Aside0.mk H
             clear H
             go_wp2
             repeat (go_quiet (fail); try go_wp2)
             go_meet
             case rel => exact ⟨_, (decide ((rd l1 0) > 0)), (by first | rfl | (simp; done) | (simp [*]; done)), H', ⟨by have := HJ11.out; first | omega | exact Nat.le_refl _⟩, ⟨bl⟩⟩
            ·
             rw [if_neg c24] at H
             have c24b0 : decide (a2 < (rd l0 2)) = false := decide_eq_false c24
             clear c24
             (first | rw [c24b0] | (simp only [i64_w, i32_w]; rw [c24b0]) | skip)
             have H' := Aside0.mk H
             clear H
             go_wp2
             repeat (go_quiet (fail); try go_wp2)
             go_meet
             case rel => exact ⟨_, (false), (by first | rfl | (simp; done) | (simp [*]; done)), H', ⟨by have := HJ11.out; first | omega | exact Nat.le_refl _⟩, ⟨bl⟩⟩
           case rest =>
            clear HC23
            try clear c1
            try clear p1
            try clear q1
            try clear hx1
            try clear qi1
            try clear c2
            try clear p2
            try clear q2
            try clear hx2
            try clear qi2
            try clear c5
            try clear c5b0
            try clear c5b1
            try clear c6
            try clear c6b0
            try clear c6b1
            try clear p6
            try clear c7
            try clear c7b0
            try clear c7b1
            try clear c8
            try clear c8b0
            try clear c8b1
            try clear c9
            try clear c9b0
            try clear c9b1
            try clear c10
            try clear c10b0
            try clear c10b1
            try clear c11
            try clear c11b0
            try clear c11b1
            try clear c13
            try clear c13b0
            try clear c14
            try clear c16
            try clear c16b0
            try clear p19
            try clear q19
            try clear hx19
            try clear qi19
            try clear p20
            try clear q20
            try clear hx20
            try clear qi20
            try clear c24
            try clear c24b0
            try clear hx197_0
            try clear hx198_0
            try clear hx199_0
            try clear hx200_0
            try clear hx201_0
            try clear hx202_0
            try clear hx203_0
            try clear p1
            try clear p197
            try clear p198
            try clear p199
            try clear p2
            try clear p200
            try clear p201
            try clear p202
            try clear p203
            try clear q1
            try clear q197
            try clear q198
            try clear q199
            try clear q2
            try clear q200
            try clear q201
            try clear q202
            try clear q203
            obtain ⟨kq, x55_22, rfl, HA, HJ22, HB⟩ := hcut
            cases kq with
            | zero => exact absurd HA.out (by simp [sequencer_stage.j1])
            | succ kj22 =>
             have H := HA.out
             clear HA
             simp only [sequencer_stage.j1] at H
             by_cases c25 : x55_22 = true
             ·
              subst c25
              rw [if_pos rfl] at H
              obtain ⟨ji26, hji26⟩ : ∃ j_ : Int, (mn (rd l1 1) 0) = j_ := ⟨_, rfl⟩
              replace H : (if (wrap64 (-(wrap64 ((ji26) - a3)))) ≥ (rd l0 4) then (some (([wrap64 ((rd l1 0) - 1), 0] : List Int))) else (some (([(rd l1 0), mx (-6311433599) (mn 6311433599 (wrap64 ((ji26) - a3)))] : List Int)))) = some r := by first | (rw [hji26] at H; exact H) | (simp only [hji26] at H ⊢; exact H)
              have hji26_ : (if 0 < (rd l1 1) then 0 else (rd l1 1)) = ji26 := hji26
              by_cases c27 : (wrap64 (-(wrap64 ((ji26) - a3)))) ≥ (rd l0 4)
              ·
               rw [if_pos c27] at H
               have c27b0 : decide ((rd l0 4) ≤ (wrap64 (-(wrap64 ((ji26) - a3))))) = true := decide_eq_true c27
               clear c27
               obtain ⟨y210, hy210⟩ : ∃ y_ : List Int, y_ = (([wrap64 ((rd l1 0) - 1), 0] : List Int)) := ⟨_, rfl⟩
               replace H : (some y210) = some r := by first | (rw [hy210]; with_reducible exact H) | (have H2_ := (Option.bind_some _ _).symm.trans H; rw [hy210]; with_reducible exact H2_) | (have H2_ := (Option.bind_some _ _).symm.trans H; with_reducible exact H2_) | with_reducible exact H | (rw [hy210]; exact H) | exact H
               have Ny210 := Aside0.mk hy210
               clear hy210
               obtain rfl := Option.some.inj H
               go_wp2_with (first | ((with_reducible refine gate_dst (N := 77) rfl ?_); refine Kd.R_lit (Kd.int .i64) _ 2 ?hg (N := 77) ?hd (xs := ([wrap64 ((rd l1 0) - 1), 0] : List Int)) (inner := [.int .i64 (wrap64 ((rd l1 0) - 1)), .int .i64 0]) (ok := fun _ => True) (okp := fun _ => True) ?hr ?hp (fun _ hk => hk) trivial (Below.refl _ _) (Nat.le_refl _) (by simp) ?_; (case hd => rfl); (case hg => rfl); (case hr => first | (go_simp; done) | (go_simp; rfl)); (case hp => exact (Reps.one (show Kd.M (Kd.int .i64) _ _ _ (wrap64 ((rd l1 0) - 1)) [.int .i64 (wrap64 ((rd l1 0) - 1))] from rfl) (Reps.one (show Kd.M (Kd.int .i64) _ _ _ 0 [.int .i64 0] from rfl) (Reps.none _ _)))); intro v211 w28 ho29 hb hg_ hnew_; clear hg_ hnew_; (first | rw [← Ny210.out] at ho29 | (simp only [Int.reduceToNat] at ho29; rw [← Ny210.out] at ho29)); have n0_ := Aside0.mk (Kd.R_lower ho29 (below_size bl)); have n1_ := Aside0.mk (below_step bl hb); clear HB; have HO212 := n0_; have HB := n1_; clear n0_ n1_; clear hb ho29))
               repeat (go_quiet (first | ((with_reducible refine gate_dst (N := 77) rfl ?_); refine Kd.R_lit (Kd.int .i64) _ 2 ?hg (N := 77) ?hd (xs := ([wrap64 ((rd l1 0) - 1), 0] : List Int)) (inner := [.int .i64 (wrap64 ((rd l1 0) - 1)), .int .i64 0]) (ok := fun _ => True) (okp := fun _ => True) ?hr ?hp (fun _ hk => hk) trivial (Below.refl _ _) (Nat.le_refl _) (by simp) ?_; (case hd => rfl); (case hg => rfl); (case hr => first | (go_simp; done) | (go_simp; rfl)); (case hp => exact (Reps.one (show Kd.M (Kd.int .i64) _ _ _ (wrap64 ((rd l1 0) - 1)) [.int .i64 (wrap64 ((rd l1 0) - 1))] from rfl) (Reps.one (show Kd.M (Kd.int .i64) _ _ _ 0 [.int .i64 0] from rfl) (Reps.none _ _)))); intro v211 w28 ho29 hb hg_ hnew_; clear hg_ hnew_; (first | rw [← Ny210.out] at ho29 | (simp only [Int.reduceToNat] at ho29; rw [← Ny210.out] at ho29)); have n0_ := Aside0.mk (Kd.R_lower ho29 (below_size bl)); have n1_ := Aside0.mk (below_step bl hb); clear HB; have HO212 := n0_; have HB := n1_; clear n0_ n1_; clear hb ho29)); try go_wp2_with (first | ((with_reducible refine gate_dst (N := 77) rfl ?_); refine Kd.R_lit (Kd.int .i64) _ 2 ?hg (N := 77) ?hd (xs := ([wrap64 ((rd l1 0) - 1), 0] : List Int)) (inner := [.int .i64 (wrap64 ((rd l1 0) - 1)), .int .i64 0]) (ok := fun _ => True) (okp := fun _ => True) ?hr ?hp (fun _ hk => hk) trivial (Below.refl _ _) (Nat.le_refl _) (by simp) ?_; (case hd => rfl); (case hg => rfl); (case hr => first | (go_simp; done) | (go_simp; rfl)); (case hp => exact (Reps.one (show Kd.M (Kd.int .i64) _ _ _ (wrap64 ((rd l1 0) - 1)) [.int .i64 (wrap64 ((rd l1 0) - 1))] from rfl) (Reps.one (show Kd.M (Kd.int .i64) _ _ _ 0 [.int .i64 0] from rfl) (Reps.none _ _)))); intro v211 w28 ho29 hb hg_ hnew_; clear hg_ hnew_; (first | rw [← Ny210.out] at ho29 | (simp only [Int.reduceToNat] at ho29; rw [← Ny210.out] at ho29)); have n0_ := Aside0.mk (Kd.R_lower ho29 (below_size bl)); have n1_ := Aside0.mk (below_step bl hb); clear HB; have HO212 := n0_; have HB := n1_; clear n0_ n1_; clear hb ho29)))
               go_ret
               exact ⟨_, by first | rfl | (simp [errW_none, errW_some] <;> rfl) | (simp only [← hji26]; first | rfl | (simp [errW_none, errW_some] <;> rfl)) | (simp [*, errW_none, errW_some] <;> rfl), by (with_reducible repeat (first | apply Kd.R_alloc | apply Kd.R_drewN | apply Kd.R_drew)); exact HO212.out, bl⟩
              ·
               rw [if_neg c27] at H
               have c27b0 : decide ((rd l0 4) ≤ (wrap64 (-(wrap64 ((ji26) - a3))))) = false := decide_eq_false c27
               clear c27
               obtain ⟨ji30, hji30⟩ : ∃ j_ : Int, (mn 6311433599 (wrap64 ((ji26) - a3))) = j_ := ⟨_, rfl⟩
               replace H : (some (([(rd l1 0), mx (-6311433599) (ji30)] : List Int))) = some r := by first | (rw [hji30] at H; exact H) | (simp only [hji30] at H ⊢; exact H)
               have hji30_ : (if (wrap64 ((ji26) - a3)) < 6311433599 then (wrap64 ((ji26) - a3)) else 6311433599) = ji30 := hji30
               obtain ⟨ji31, hji31⟩ : ∃ j_ : Int, (mx (-6311433599) (ji30)) = j_ := ⟨_, rfl⟩
               replace H : (some (([(rd l1 0), ji31] : List Int))) = some r := by first | (rw [hji31] at H; exact H) | (simp only [hji31] at H ⊢; exact H)
               have hji31_ : (if (-6311433599) < (ji30) then (ji30) else (-6311433599)) = ji31 := hji31
               obtain ⟨y213, hy213⟩ : ∃ y_ : List Int, y_ = (([(rd l1 0), ji31] : List Int)) := ⟨_, rfl⟩
               replace H : (some y213) = some r := by first | (rw [hy213]; with_reducible exact H) | (have H2_ := (Option.bind_some _ _).symm.trans H; rw [hy213]; with_reducible exact H2_) | (have H2_ := (Option.bind_some _ _).symm.trans H; with_reducible exact H2_) | with_reducible exact H | (rw [hy213]; exact H) | exact H
               have Ny213 := Aside0.mk hy213
               clear hy213
               obtain rfl := Option.some.inj H
               go_wp2_with (first | ((with_reducible refine gate_dst (N := 77) rfl ?_); refine Kd.R_lit (Kd.int .i64) _ 2 ?hg (N := 77) ?hd (xs := ([(rd l1 0), ji31] : List Int)) (inner := [.int .i64 (rd l1 0), .int .i64 ji31]) (ok := fun _ => True) (okp := fun _ => True) ?hr ?hp (fun _ hk => hk) trivial (Below.refl _ _) (Nat.le_refl _) (by simp) ?_; (case hd => rfl); (case hg => rfl); (case hr => first | (go_simp; done) | (go_simp; rfl)); (case hp => exact (Reps.one (show Kd.M (Kd.int .i64) _ _ _ (rd l1 0) [.int .i64 (rd l1 0)] from rfl) (Reps.one (show Kd.M (Kd.int .i64) _ _ _ ji31 [.int .i64 ji31] from rfl) (Reps.none _ _)))); intro v214 w32 ho33 hb hg_ hnew_; clear hg_ hnew_; (first | rw [← Ny213.out] at ho33 | (simp only [Int.reduceToNat] at ho33; rw [← Ny213.out] at ho33)); have n0_ := Aside0.mk (Kd.R_lower ho33 (below_size bl)); have n1_ := Aside0.mk (below_step bl hb); clear HB; have HO215 := n0_; have HB := n1_; clear n0_ n1_; clear hb ho33))
               repeat (go_quiet (first | ((with_reducible refine gate_dst (N := 77) rfl ?_); refine Kd.R_lit (Kd.int .i64) _ 2 ?hg (N := 77) ?hd (xs := ([(rd l1 0), ji31] : List Int)) (inner := [.int .i64 (rd l1 0), .int .i64 ji31]) (ok := fun _ => True) (okp := fun _ => True) ?hr ?hp (fun _ hk => hk) trivial (Below.refl _ _) (Nat.le_refl _) (by simp) ?_; (case hd => rfl); (case hg => rfl); (case hr => first | (go_simp; done) | (go_simp; rfl)); (case hp => exact (Reps.one (show Kd.M (Kd.int .i64) _ _ _ (rd l1 0) [.int .i64 (rd l1 0)] from rfl) (Reps.one (show Kd.M (Kd.int .i64) _ _ _ ji31 [.int .i64 ji31] from rfl) (Reps.none _ _)))); intro v214 w32 ho33 hb hg_ hnew_; clear hg_ hnew_; (first | rw [← Ny213.out] at ho33 | (simp only [Int.reduceToNat] at ho33; rw [← Ny213.out] at ho33)); have n0_ := Aside0.mk (Kd.R_lower ho33 (below_size bl)); have n1_ := Aside0.mk (below_step bl hb); clear HB; have HO215 := n0_; have HB := n1_; clear n0_ n1_; clear hb ho33)); try go_wp2_with (first | ((with_reducible refine gate_dst (N := 77) rfl ?_); refine Kd.R_lit (Kd.int .i64) _ 2 ?hg (N := 77) ?hd (xs := ([(rd l1 0), ji31] : List Int)) (inner := [.int .i64 (rd l1 0), .int .i64 ji31]) (ok := fun _ => True) (okp := fun _ => True) ?hr ?hp (fun _ hk => hk) trivial (Below.refl _ _) (Nat.le_refl _) (by simp) ?_; (case hd => rfl); (case hg => rfl); (case hr => first | (go_simp; done) | (go_simp; rfl)); (case hp => exact (Reps.one (show Kd.M (Kd.int .i64) _ _ _ (rd l1 0) [.int .i64 (rd l1 0)] from rfl) (Reps.one (show Kd.M (Kd.int .i64) _ _ _ ji31 [.int .i64 ji31] from rfl) (Reps.none _ _)))); intro v214 w32 ho33 hb hg_ hnew_; clear hg_ hnew_; (first | rw [← Ny213.out] at ho33 | (simp only [Int.reduceToNat] at ho33; rw [← Ny213.out] at ho33)); have n0_ := Aside0.mk (Kd.R_lower ho33 (below_size bl)); have n1_ := Aside0.mk (below_step bl hb); clear HB; have HO215 := n0_; have HB := n1_; clear n0_ n1_; clear hb ho33)))
               go_ret
               exact ⟨_, by first | rfl | (simp [errW_none, errW_some] <;> rfl) | (simp only [← hji26, ← hji30, ← hji31]; first | rfl | (simp [errW_none, errW_some] <;> rfl)) | (simp [*, errW_none, errW_some] <;> rfl), by (with_reducible repeat (first | apply Kd.R_alloc | apply Kd.R_drewN | apply Kd.R_drew)); exact HO215.out, bl⟩
             ·
              replace c25 := Bool.eq_false_iff.mpr c25
              subst c25
              rw [if_neg (show ¬ (false = true) by decide)] at H
              obtain ⟨y216, hy216⟩ : ∃ y_ : List Int, y_ = (([(rd l1 0), 0] : List Int)) := ⟨_, rfl⟩
              replace H : (some y216) = some r := by first | (rw [hy216]; with_reducible exact H) | (have H2_ := (Option.bind_some _ _).symm.trans H; rw [hy216]; with_reducible exact H2_) | (have H2_ := (Option.bind_some _ _).symm.trans H; with_reducible exact H2_) | with_reducible exact H | (rw [hy216]; exact H) | exact H
              have Ny216 := Aside0.mk hy216
              clear hy216
              obtain rfl := Option.some.inj H
              go_wp2_with (first | ((with_reducible refine gate_dst (N := 77) rfl ?_); refine Kd.R_lit (Kd.int .i64) _ 2 ?hg (N := 77) ?hd (xs := ([(rd l1 0), 0] : List Int)) (inner := [.int .i64 (rd l1 0), .int .i64 0]) (ok := fun _ => True) (okp := fun _ => True) ?hr ?hp (fun _ hk => hk) trivial (Below.refl _ _) (Nat.le_refl _) (by simp) ?_; (case hd => rfl); (case hg => rfl); (case hr => first | (go_simp; done) | (go_simp; rfl)); (case hp => exact (Reps.one (show Kd.M (Kd.int .i64) _ _ _ (rd l1 0) [.int .i64 (rd l1 0)] from rfl) (Reps.one (show Kd.M (Kd.int .i64) _ _ _ 0 [.int .i64 0] from rfl) (Reps.none _ _)))); intro v217 w34 ho35 hb hg_ hnew_; clear hg_ hnew_; (first | rw [← Ny216.out] at ho35 | (simp only [Int.reduceToNat] at ho35; rw [← Ny216.out] at ho35)); have n0_ := Aside0.mk (Kd.R_lower ho35 (below_size bl)); have n1_ := Aside0.mk (below_step bl hb); clear HB; have HO218 := n0_; have HB := n1_; clear n0_ n1_; clear hb ho35))
              repeat (go_quiet (first | ((with_reducible refine gate_dst (N := 77) rfl ?_); refine Kd.R_lit (Kd.int .i64) _ 2 ?hg (N := 77) ?hd (xs := ([(rd l1 0), 0] : List Int)) (inner := [.int .i64 (rd l1 0), .int .i64 0]) (ok := fun _ => True) (okp := fun _ => True) ?hr ?hp (fun _ hk => hk) trivial (Below.refl _ _) (Nat.le_refl _) (by simp) ?_; (case hd => rfl); (case hg => rfl); (case hr => first | (go_simp; done) | (go_simp; rfl)); (case hp => exact (Reps.one (show Kd.M (Kd.int .i64) _ _ _ (rd l1 0) [.int .i64 (rd l1 0)] from rfl) (Reps.one (show Kd.M (Kd.int .i64) _ _ _ 0 [.int .i64 0] from rfl) (Reps.none _ _)))); intro v217 w34 ho35 hb hg_ hnew_; clear hg_ hnew_; (first | rw [← Ny216.out] at ho35 | (simp only [Int.reduceToNat] at ho35; rw [← Ny216.out] at ho35)); have n0_ := Aside0.mk (Kd.R_lower ho35 (below_size bl)); have n1_ := Aside0.mk (below_step bl hb); clear HB; have HO218 := n0_; have HB := n1_; clear n0_ n1_; clear hb ho35)); try go_wp2_with (first | ((with_reducible refine gate_dst (N := 77) rfl ?_); refine Kd.R_lit (Kd.int .i64) _ 2 ?hg (N := 77) ?hd (xs := ([(rd l1 0), 0] : List Int)) (inner := [.int .i64 (rd l1 0), .int .i64 0]) (ok := fun _ => True) (okp := fun _ => True) ?hr ?hp (fun _ hk => hk) trivial (Below.refl _ _) (Nat.le_refl _) (by simp) ?_; (case hd => rfl); (case hg => rfl); (case hr => first | (go_simp; done) | (go_simp; rfl)); (case hp => exact (Reps.one (show Kd.M (Kd.int .i64) _ _ _ (rd l1 0) [.int .i64 (rd l1 0)] from rfl) (Reps.one (show Kd.M (Kd.int .i64) _ _ _ 0 [.int .i64 0] from rfl) (Reps.none _ _)))); intro v217 w34 ho35 hb hg_ hnew_; clear hg_ hnew_; (first | rw [← Ny216.out] at ho35 | (simp only [Int.reduceToNat] at ho35; rw [← Ny216.out] at ho35)); have n0_ := Aside0.mk (Kd.R_lower ho35 (below_size bl)); have n1_ := Aside0.mk (below_step bl hb); clear HB; have HO218 := n0_; have HB := n1_; clear n0_ n1_; clear hb ho35)))
              go_ret
              exact ⟨_, by first | rfl | (simp [errW_none, errW_some] <;> rfl) | (simp [*, errW_none, errW_some] <;> rfl), by (with_reducible repeat (first | apply Kd.R_alloc | apply Kd.R_drewN | apply Kd.R_drew)); exact HO218.out, bl⟩
       ·
        rw [if_neg c11] at H
        exact absurd H (by simp)
      ·
       rw [if_neg c10] at H
       exact absurd H (by simp)
     ·
      rw [if_neg c9] at H
      exact absurd H (by simp)
    ·
     rw [if_neg c8] at H
     exact absurd H (by simp)
   ·
    rw [if_neg c7] at H
    exact absurd H (by simp)
  ·
   rw [if_neg c6] at H
   exact absurd H (by simp)
 ·
  rw [if_neg c5] at H
  exact absurd H (by simp)

/-! ### sequencer_steps: function 27 -/
def sequencer_steps.f (l0 : List Int) (l1 : List Int) (a2 : Bool) (a3 : Bool) (a4 : Int) : Option (List Int) := if 0 < (l1.length : Int) then (if 1 < (l1.length : Int) then (if a2 = true then (if (rd l1 0) = 0 then (some (([1, 0] : List Int))) else (if 0 < (l0.length : Int) then (if (rd l1 0) < (rd l0 0) then (if a3 = true then (if 1 < (l0.length : Int) then (if (mn (wrap64 ((rd l1 1) + a4)) 6311433599) ≥ (rd l0 1) then (some (([wrap64 ((rd l1 0) + 1), 0] : List Int))) else (some (([rd l1 0, mn (wrap64 ((rd l1 1) + a4)) 6311433599] : List Int)))) else (none)) else (some (([rd l1 0, mn (wrap64 ((rd l1 1) + a4)) 6311433599] : List Int)))) else (some (([rd l1 0, mn (wrap64 ((rd l1 1) + a4)) 6311433599] : List Int)))) else (none))) else (some (([0, 0] : List Int)))) else (none)) else (none)
set_option maxHeartbeats 8000000 in
set_option maxRecDepth 100000 in
theorem sequencer_steps.calls (A0 : Option Addr) (c0 : Nat) (l0 : List Int) (A1 : Option Addr) (c1 : Nat) (l1 : List Int) (a2 : Bool) (a3 : Bool) (a4 : Int) (r : List Int) (w : World) (hr0 : Kd.C (Kd.int .i64) w A0 l0.length l0) (hc0 : l0.length ≤ c0) (hr1 : Kd.C (Kd.int .i64) w A1 l1.length l1) (hc1 : l1.length ≤ c1) (h : sequencer_steps.f l0 l1 a2 a3 a4 = some r) :
  Calls Tryd.prog 27 #[.slice A0 l0.length c0, .slice A1 l1.length c1, .bool a2, .bool a3, .int .i64 a4] w fun e w' => ∃ v0_ : Value, e = .returned (v0_) ∧ Kd.R (Kd.int .i64) 2 w' w.heap.size (fun _ => True) v0_ r ∧ Below w.heap.size w w' := by
 have HR0 := Aside0.mk hr0
 have HC0 := Aside0.mk hc0
 clear hr0 hc0
 have HR1 := Aside0.mk hr1
 have HC1 := Aside0.mk hc1
 clear hr1 hc1
 have HB := Aside0.mk (Below.refl w.heap.size w)
 have H : (if 0 < (l1.length : Int) then (if 1 < (l1.length : Int) then (if a2 = true then (if (rd l1 0) = 0 then (some (([1, 0] : List Int))) else (if 0 < (l0.length : Int) then (if (rd l1 0) < (rd l0 0) then (if a3 = true then (if 1 < (l0.length : Int) then (if (mn (wrap64 ((rd l1 1) + a4)) 6311433599) ≥ (rd l0 1) then (some (([wrap64 ((rd l1 0) + 1), 0] : List Int))) else (some (([rd l1 0, mn (wrap64 ((rd l1 1) + a4)) 6311433599] : List Int)))) else (none)) else (some (([rd l1 0, mn (wrap64 ((rd l1 1) + a4)) 6311433599] : List Int)))) else (some (([rd l1 0, mn (wrap64 ((rd l1 1) + a4)) 6311433599] : List Int)))) else (none))) else (some (([0, 0] : List Int)))) else (none)) else (none)) = some r := h
 clear h
 by_cases c6 : 0 < (l1.length : Int)
 ·
  rw [if_pos c6] at H
  have c6b0 : decide (0 < (l1.length : Int)) = true := decide_eq_true c6
  have c6b1 : decide (0 < l1.length) = true := decide_eq_true (by omega)
  clear c6
  by_cases c7 : 1 < (l1.length : Int)
  ·
   rw [if_pos c7] at H
   have c7b0 : decide (1 < (l1.length : Int)) = true := decide_eq_true c7
   have c7b1 : decide (1 < l1.length) = true := decide_eq_true (by omega)
   clear c7
   by_cases c8 : a2 = true
   ·
    subst c8
    rw [if_pos rfl] at H
    by_cases c9 : (rd l1 0) = 0
    ·
     rw [if_pos c9] at H
     have c9b0 : ((rd l1 0) == 0) = true := beq_iff_eq.mpr c9
     have c9b1 : ((rd l1 0) != 0) = false := bne_eq_false_iff_eq.mpr c9
     clear c9
     obtain ⟨y221, hy221⟩ : ∃ y_ : List Int, y_ = (([1, 0] : List Int)) := ⟨_, rfl⟩
     replace H : (some y221) = some r := by first | (rw [hy221]; with_reducible exact H) | (have H2_ := (Option.bind_some _ _).symm.trans H; rw [hy221]; with_reducible exact H2_) | (have H2_ := (Option.bind_some _ _).symm.trans H; with_reducible exact H2_) | with_reducible exact H | (rw [hy221]; exact H) | exact H
     have Ny221 := Aside0.mk hy221
     clear hy221
     obtain rfl := Option.some.inj H
     have p219 : 0 ≤ (0 : Int) := (by omega)
     have q219 : 0 < (l1.length : Int) := ode
     obtain ⟨ad219, e219, hx219_0⟩ := Kd.at_int HR1.out 0 p219 q219
     cases e219
     have qi219 : (0 < l1.length) = True := eq_true (by omega)
     (try rw [show ((0 : Int)).toNat = 0 from rfl] at hx219_0)
     (try rw [Addr.add_zero'] at hx219_0)
     replace p219 := eq_true p219
     replace q219 := eq_true q219
     have p220 : 0 ≤ (1 : Int) := (by omega)
     have q220 : 1 < (l1.length : Int) := ode
     obtain ⟨ad220, e220, hx220_0⟩ := Kd.at_int HR1.out 1 p220 q220
     obtain rfl : ad219 = ad220 := (by injection e220)
     (try simp only [show (1 : Int).toNat = 1 from rfl, Nat.reduceMul, Nat.reduceEqDiff, Go.Addr.add, ↓reduceIte] at hx220_0)
     have qi220 : (1 < l1.length) = True := eq_true (by omega)
     (try rw [show ((1 : Int)).toNat = 1 from rfl] at hx220_0)
     replace p220 := eq_true p220
     replace q220 := eq_true q220
     go_enter Tryd.func27, Tryd.ntmps27
     go_wp2_with (first | ((with_reducible refine gate_dst (N := 26) rfl ?_); refine Kd.R_lit (Kd.int .i64) _ 2 ?hg (N := 26) ?hd (xs := ([1, 0] : List Int)) (inner := [.int .i64 1, .int .i64 0]) (ok := fun _ => True) (okp := fun _ => True) ?hr ?hp (fun _ hk => hk) trivial (Below.refl _ _) (Nat.le_refl _) (by simp) ?_; (case hd => rfl); (case hg => rfl); (case hr => first | (go_simp; done) | (go_simp; rfl)); (case hp => exact (Reps.one (show Kd.M (Kd.int .i64) _ _ _ 1 [.int .i64 1] from rfl) (Reps.one (show Kd.M (Kd.int .i64) _ _ _ 0 [.int .i64 0] from rfl) (Reps.none _ _)))); intro v222 w10 ho11 hb hg_ hnew_; clear hg_ hnew_; (first | rw [← Ny221.out] at ho11 | (simp only [Int.reduceToNat] at ho11; rw [← Ny221.out] at ho11)); have n0_ := Aside0.mk (Kd.R_lower ho11 (below_size bl)); have n1_ := Aside0.mk (below_step bl hb); clear HB; have HO223 := n0_; have HB := n1_; clear n0_ n1_; clear hb ho11))
     repeat (go_quiet (first | ((with_reducible refine gate_dst (N := 26) rfl ?_); refine Kd.R_lit (Kd.int .i64) _ 2 ?hg (N := 26) ?hd (xs := ([1, 0] : List Int)) (inner := [.int .i64 1, .int .i64 0]) (ok := fun _ => True) (okp := fun _ => True) ?hr ?hp (fun _ hk => hk) trivial (Below.refl _ _) (Nat.le_refl _) (by simp) ?_; (case hd => rfl); (case hg => rfl); (case hr => first | (go_simp; done) | (go_simp; rfl)); (case hp => exact (Reps.one (show Kd.M (Kd.int .i64) _ _ _ 1 [.int .i64 1] from rfl) (Reps.one (show Kd.M (Kd.int .i64) _ _ _ 0 [.int .i64 0] from rfl) (Reps.none _ _)))); intro v222 w10 ho11 hb hg_ hnew_; clear hg_ hnew_; (first | rw [← Ny221.out] at ho11 | (simp only [Int.reduceToNat] at ho11; rw [← Ny221.out] at ho11)); have n0_ := Aside0.mk (Kd.R_lower ho11 (below_size bl)); have n1_ := Aside0.mk (below_step bl hb); clear HB; have HO223 := n0_; have HB := n1_; clear n0_ n1_; clear hb ho11)); try go_wp2_with (first | ((with_reducible refine gate_dst (N := 26) rfl ?_); refine Kd.R_lit (Kd.int .i64) _ 2 ?hg (N := 26) ?hd (xs := ([1, 0] : List Int)) (inner := [.int .i64 1, .int .i64 0]) (ok := fun _ => True) (okp := fun _ => True) ?hr ?hp (fun _ hk => hk) trivial (Below.refl _ _) (Nat.le_refl _) (by simp) ?_; (case hd => rfl); (case hg => rfl); (case hr => first | (go_simp; done) | (go_simp; rfl)); (case hp => exact (Reps.one (show Kd.M (Kd.int .i64) _ _ _ 1 [.int .i64 1] from rfl) (Reps.one (show Kd.M (Kd.int .i64) _ _ _ 0 [.int .i64 0] from rfl) (Reps.none _ _)))); intro v222 w10 ho11 hb hg_ hnew_; clear hg_ hnew_; (first | rw [← Ny221.out] at ho11 | (simp only [Int.reduceToNat] at ho11; rw [← Ny221.out] at ho11)); have n0_ := Aside0.mk (Kd.R_lower ho11 (below_size bl)); have n1_ := Aside0.mk (below_step bl hb); clear HB; have HO223 := n0_; have HB := n1_; clear n0_ n1_; clear hb ho11)))
     go_ret
     exact ⟨_, by first | rfl | (simp [errW_none, errW_some] <;> rfl) | (simp [*, errW_none, errW_some] <;> rfl), by (with_reducible repeat (first | apply Kd.R_alloc | apply Kd.R_drewN | apply Kd.R_drew)); exact HO223.out, bl⟩
    ·
     rw [if_neg c9] at H
     have c9b0 : ((rd l1 0) == 0) = false := beq_eq_false_iff_ne.mpr c9
     have c9b1 : ((rd l1 0) != 0) = true := bne_iff_ne.mpr c9
     obtain ⟨ji12, hji12⟩ : ∃ j_ : Int, (mn (wrap64 ((rd l1 1) + a4)) 6311433599) = j_ := ⟨_, rfl⟩
     replace H : (if 0 < (l0.length : Int) then (if (rd l1 0) < (rd l0 0) then (if a3 = true then (if 1 < (l0.length : Int) then (if (ji12) ≥ (rd l0 1) then (some (([wrap64 ((rd l1 0) + 1), 0] : List Int))) else (some (([rd l1 0, ji12] : List Int)))) else (none)) else (some (([rd l1 0, ji12] : List Int)))) else (some (([rd l1 0, ji12] : List Int)))) else (none)) = some r := by first | (rw [hji12] at H; exact H) | (simp only [hji12] at H ⊢; exact H)
     (try (have hji12h : ji12 ≤ 6311433599 := by (rw [← hji12]; unfold mn; (repeat' split) <;> omega)))
     (try (have hji12g : ji12 ≤ 64 := by omega))
     have hji12_ : (if 6311433599 < (wrap64 ((rd l1 1) + a4)) then 6311433599 else (wrap64 ((rd l1 1) + a4))) = ji12 := hji12
     by_cases c13 : 0 < (l0.length : Int)
     ·
      rw [if_pos c13] at H
      have c13b0 : decide (0 < (l0.length : Int)) = true := decide_eq_true c13
      have c13b1 : decide (0 < l0.length) = true := decide_eq_true (by omega)
      clear c13
      by_cases c14 : (rd l1 0) < (rd l0 0)
      ·
       rw [if_pos c14] at H
       have c14b0 : decide ((rd l1 0) < (rd l0 0)) = true := decide_eq_true c14
       clear c14
       by_cases c15 : a3 = true
       ·
        subst c15
        rw [if_pos rfl] at H
        by_cases c16 : 1 < (l0.length : Int)
        ·
         rw [if_pos c16] at H
         have c16b0 : decide (1 < (l0.length : Int)) = true := decide_eq_true c16
         have c16b1 : decide (1 < l0.length) = true := decide_eq_true (by omega)
         clear c16
         by_cases c17 : (ji12) ≥ (rd l0 1)
         ·
          rw [if_pos c17] at H
          have c17b0 : decide ((rd l0 1) ≤ (ji12)) = true := decide_eq_true c17
          clear c17
          obtain ⟨y226, hy226⟩ : ∃ y_ : List Int, y_ = (([wrap64 ((rd l1 0) + 1), 0] : List Int)) := ⟨_, rfl⟩
          replace H : (some y226) = some r := by first | (rw [hy226]; with_reducible exact H) | (have H2_ := (Option.bind_some _ _).symm.trans H; rw [hy226]; with_reducible exact H2_) | (have H2_ := (Option.bind_some _ _).symm.trans H; with_reducible exact H2_) | with_reducible exact H | (rw [hy226]; exact H) | exact H
          have Ny226 := Aside0.mk hy226
          clear hy226
          obtain rfl := Option.some.inj H
          have p219 : 0 ≤ (0 : Int) := (by omega)
          have q219 : 0 < (l1.length : Int) := ode
          obtain ⟨ad219, e219, hx219_0⟩ := Kd.at_int HR1.out 0 p219 q219
          cases e219
          have qi219 : (0 < l1.length) = True := eq_true (by omega)
          (try rw [show ((0 : Int)).toNat = 0 from rfl] at hx219_0)
          (try rw [Addr.add_zero'] at hx219_0)
          replace p219 := eq_true p219
          replace q219 := eq_true q219
          have p220 : 0 ≤ (1 : Int) := (by omega)
          have q220 : 1 < (l1.length : Int) := ode
          obtain ⟨ad220, e220, hx220_0⟩ := Kd.at_int HR1.out 1 p220 q220
          obtain rfl : ad219 = ad220 := (by injection e220)
          (try simp only [show (1 : Int).toNat = 1 from rfl, Nat.reduceMul, Nat.reduceEqDiff, Go.Addr.add, ↓reduceIte] at hx220_0)
          have qi220 : (1 < l1.length) = True := eq_true (by omega)
          (try rw [show ((1 : Int)).toNat = 1 from rfl] at hx220_0)
          replace p220 := eq_true p220
          replace q220 := eq_true q220
          have p224 : 0 ≤ (0 : Int) := (by omega)
          have q224 : 0 < (l0.length : Int) := ode
          obtain ⟨ad224, e224, hx224_0⟩ := Kd.at_int HR0.out 0 p224 q224
          cases e224
          have qi224 : (0 < l0.length) = True := eq_true (by omega)
          (try rw [show ((0 : Int)).toNat = 0 from rfl] at hx224_0)
          (try rw [Addr.add_zero'] at hx224_0)
          replace p224 := eq_true p224
          replace q224 := eq_true q224
          have p225 : 0 ≤ (1 : Int) := (by omega)
          have q225 : 1 < (l0.length : Int) := ode
          obtain ⟨ad225, e225, hx225_0⟩ := Kd.at_int HR0.out 1 p225 q225
          obtain rfl : ad224 = ad225 := (by injection e225)
          (try simp only [show (1 : Int).toNat = 1 from rfl, Nat.reduceMul, Nat.reduceEqDiff, Go.Addr.add, ↓reduceIte] at hx225_0)
          have qi225 : (1 < l0.length) = True := eq_true (by omega)
          (try rw [show ((1 : Int)).toNat = 1 from rfl] at hx225_0)
          replace p225 := eq_true p225
          replace q225 := eq_true q225
          go_enter Tryd.func27, Tryd.ntmps27
          go_wp2_with (first | ((with_reducible refine gate_dst (N := 50) rfl ?_); refine Kd.R_lit (Kd.int .i64) _ 2 ?hg (N := 50) ?hd (xs := ([wrap64 ((rd l1 0) + 1), 0] : List Int)) (inner := [.int .i64 (wrap64 ((rd l1 0) + 1)), .int .i64 0]) (ok := fun _ => True) (okp := fun _ => True) ?hr ?hp (fun _ hk => hk) trivial (Below.refl _ _) (Nat.le_refl _) (by simp) ?_; (case hd => rfl); (case hg => rfl); (case hr => first | (go_simp; done) | (go_simp; rfl)); (case hp => exact (Reps.one (show Kd.M (Kd.int .i64) _ _ _ (wrap64 ((rd l1 0) + 1)) [.int .i64 (wrap64 ((rd l1 0) + 1))] from rfl) (Reps.one (show Kd.M (Kd.int .i64) _ _ _ 0 [.int .i64 0] from rfl) (Reps.none _ _)))); intro v227 w18 ho19 hb hg_ hnew_; clear hg_ hnew_; (first | rw [← Ny226.out] at ho19 | (simp only [Int.reduceToNat] at ho19; rw [← Ny226.out] at ho19)); have n0_ := Aside0.mk (Kd.R_lower ho19 (below_size bl)); have n1_ := Aside0.mk (below_step bl hb); clear HB; have HO228 := n0_; have HB := n1_; clear n0_ n1_; clear hb ho19))
          repeat (go_quiet (first | ((with_reducible refine gate_dst (N := 50) rfl ?_); refine Kd.R_lit (Kd.int .i64) _ 2 ?hg (N := 50) ?hd (xs := ([wrap64 ((rd l1 0) + 1), 0] : List Int)) (inner := [.int .i64 (wrap64 ((rd l1 0) + 1)), .int .i64 0]) (ok := fun _ => True) (okp := fun _ => True) ?hr ?hp (fun _ hk => hk) trivial (Below.refl _ _) (Nat.le_refl _) (by simp) ?_; (case hd => rfl); (case hg => rfl); (case hr => first | (go_simp; done) | (go_simp; rfl)); (case hp => exact (Reps.one (show Kd.M (Kd.int .i64) _ _ _ (wrap64 ((rd l1 0) + 1)) [.int .i64 (wrap64 ((rd l1 0) + 1))] from rfl) (Reps.one (show Kd.M (Kd.int .i64) _ _ _ 0 [.int .i64 0] from rfl) (Reps.none _ _)))); intro v227 w18 ho19 hb hg_ hnew_; clear hg_ hnew_; (first | rw [← Ny226.out] at ho19 | (simp only [Int.reduceToNat] at ho19; rw [← Ny226.out] at ho19)); have n0_ := Aside0.mk (Kd.R_lower ho19 (below_size bl)); have n1_ := Aside0.mk (below_step bl hb); clear HB; have HO228 := n0_; have HB := n1_; clear n0_ n1_; clear hb ho19)); try go_wp2_with (first | ((with_reducible refine gate_dst (N := 50) rfl ?_); refine Kd.R_lit (Kd.int .i64) _ 2 ?hg (N := 50) ?hd (xs := ([wrap64 ((rd l1 0) + 1), 0] : List Int)) (inner := [.int .i64 (wrap64 ((rd l1 0) + 1)), .int .i64 0]) (ok := fun _ => True) (okp := fun _ => True) ?hr ?hp (fun _ hk => hk) trivial (Below.refl _ _) (Nat.le_refl _) (by simp) ?_; (case hd => rfl); (case hg => rfl); (case hr => first | (go_simp; done) | (go_simp; rfl)); (case hp => exact (Reps.one (show Kd.M (Kd.int .i64) _ _ _ (wrap64 ((rd l1 0) + 1)) [.int .i64 (wrap64 ((rd l1 0) + 1))] from rfl) (Reps.one (show Kd.M (Kd.int .i64) _ _ _ 0 [.int .i64 0] from rfl) (Reps.none _ _)))); intro v227 w18 ho19 hb hg_ hnew_; clear hg_ hnew_; (first | rw [← Ny226.out] at ho19 | (simp only [Int.reduceToNat] at ho19; rw [← Ny226.out] at ho19)); have n0_ := Aside0.mk (Kd.R_lower ho19 (below_size bl)); have n1_ := Aside0.mk (below_step bl hb); clear HB; have HO228 := n0_; have HB := n1_; clear n0_ n1_; clear hb ho19)))
          go_ret
          exact ⟨_, by first | rfl | (simp [errW_none, errW_some] <;> rfl) | (simp only [← hji12]; first | rfl | (simp [errW_none, errW_some] <;> rfl)) | (simp [*, errW_none, errW_some] <;> rfl), by (with_reducible repeat (first | apply Kd.R_alloc | apply Kd.R_drewN | apply Kd.R_drew)); exact HO228.out, bl⟩
         ·
          rw [if_neg c17] at H
          have c17b0 : decide ((rd l0 1) ≤ (ji12)) = false := decide_eq_false c17
          clear c17
          obtain ⟨y229, hy229⟩ : ∃ y_ : List Int, y_ = (([rd l1 0, ji12] : List Int)) := ⟨_, rfl⟩
          replace H : (some y229) = some r := by first | (rw [hy229]; with_reducible exact H) | (have H2_ := (Option.bind_some _ _).symm.trans H; rw [hy229]; with_reducible exact H2_) | (have H2_ := (Option.bind_some _ _).symm.trans H; with_reducible exact H2_) | with_reducible exact H | (rw [hy229]; exact H) | exact H
          have Ny229 := Aside0.mk hy229
          clear hy229
          obtain rfl := Option.some.inj H
          have p219 : 0 ≤ (0 : Int) := (by omega)
          have q219 : 0 < (l1.length : Int) := ode
          obtain ⟨ad219, e219, hx219_0⟩ := Kd.at_int HR1.out 0 p219 q219
          cases e219
          have qi219 : (0 < l1.length) = True := eq_true (by omega)
          (try rw [show ((0 : Int)).toNat = 0 from rfl] at hx219_0)
          (try rw [Addr.add_zero'] at hx219_0)
          replace p219 := eq_true p219
          replace q219 := eq_true q219
          have p220 : 0 ≤ (1 : Int) := (by omega)
          have q220 : 1 < (l1.length : Int) := ode
          obtain ⟨ad220, e220, hx220_0⟩ := Kd.at_int HR1.out 1 p220 q220
          obtain rfl : ad219 = ad220 := (by injection e220)
          (try simp only [show (1 : Int).toNat = 1 from rfl, Nat.reduceMul, Nat.reduceEqDiff, Go.Addr.add, ↓reduceIte] at hx220_0)
          have qi220 : (1 < l1.length) = True := eq_true (by omega)
          (try rw [show ((1 : Int)).toNat = 1 from rfl] at hx220_0)
          replace p220 := eq_true p220
          replace q220 := eq_true q220
          have p224 : 0 ≤ (0 : Int) := (by omega)
          have q224 : 0 < (l0.length : Int) := ode
          obtain ⟨ad224, e224, hx224_0⟩ := Kd.at_int HR0.out 0 p224 q224
          cases e224
          have qi224 : (0 < l0.length) = True := eq_true (by omega)
          (try rw [show ((0 : Int)).toNat = 0 from rfl] at hx224_0)
          (try rw [Addr.add_zero'] at hx224_0)
          replace p224 := eq_true p224
          replace q224 := eq_true q224
          have p225 : 0 ≤ (1 : Int) := (by omega)
          have q225 : 1 < (l0.length : Int) := ode
          obtain ⟨ad225, e225, hx225_0⟩ := Kd.at_int HR0.out 1 p225 q225
          obtain rfl : ad224 = ad225 := (by injection e225)
          (try simp only [show (1 : Int).toNat = 1 from rfl, Nat.reduceMul, Nat.reduceEqDiff, Go.Addr.add, ↓reduceIte] at hx225_0)
          have qi225 : (1 < l0.length) = True := eq_true (by omega)
          (try rw [show ((1 : Int)).toNat = 1 from rfl] at hx225_0)
          replace p225 := eq_true p225
          replace q225 := eq_true q225
          go_enter Tryd.func27, Tryd.ntmps27
          go_wp2_with (first | ((with_reducible refine gate_dst (N := 50) rfl ?_); refine Kd.R_lit (Kd.int .i64) _ 2 ?hg (N := 50) ?hd (xs := ([rd l1 0, ji12] : List Int)) (inner := [.int .i64 (rd l1 0), .int .i64 ji12]) (ok := fun _ => True) (okp := fun _ => True) ?hr ?hp (fun _ hk => hk) trivial (Below.refl _ _) (Nat.le_refl _) (by simp) ?_; (case hd => rfl); (case hg => rfl); (case hr => first | (go_simp; done) | (go_simp; rfl)); (case hp => exact (Reps.one (show Kd.M (Kd.int .i64) _ _ _ (rd l1 0) [.int .i64 (rd l1 0)] from rfl) (Reps.one (show Kd.M (Kd.int .i64) _ _ _ ji12 [.int .i64 ji12] from rfl) (Reps.none _ _)))); intro v230 w20 ho21 hb hg_ hnew_; clear hg_ hnew_; (first | rw [← Ny229.out] at ho21 | (simp only [Int.reduceToNat] at ho21; rw [← Ny229.out] at ho21)); have n0_ := Aside0.mk (Kd.R_lower ho21 (below_size bl)); have n1_ := Aside0.mk (below_step bl hb); clear HB; have HO231 := n0_; have HB := n1_; clear n0_ n1_; clear hb ho21))
          repeat (go_quiet (first | ((with_reducible refine gate_dst (N := 50) rfl ?_); refine Kd.R_lit (Kd.int .i64) _ 2 ?hg (N := 50) ?hd (xs := ([rd l1 0, ji12] : List Int)) (inner := [.int .i64 (rd l1 0), .int .i64 ji12]) (ok := fun _ => True) (okp := fun _ => True) ?hr ?hp (fun _ hk => hk) trivial (Below.refl _ _) (Nat.le_refl _) (by simp) ?_; (case hd => rfl); (case hg => rfl); (case hr => first | (go_simp; done) | (go_simp; rfl)); (case hp => exact (Reps.one (show Kd.M (Kd.int .i64) _ _ _ (rd l1 0) [.int .i64 (rd l1 0)] from rfl) (Reps.one (show Kd.M (Kd.int .i64) _ _ _ ji12 [.int .i64 ji12] from rfl) (Reps.none _ _)))); intro v230 w20 ho21 hb hg_ hnew_; clear hg_ hnew_; (first | rw [← Ny229.out] at ho21 | (simp only [Int.reduceToNat] at ho21; rw [← Ny229.out] at ho21)); have n0_ := Aside0.mk (Kd.R_lower ho21 (below_size bl)); have n1_ := Aside0.mk (below_step bl hb); clear HB; have HO231 := n0_; have HB := n1_; clear n0_ n1_; clear hb ho21)); try go_wp2_with (first | ((with_reducible refine gate_dst (N := 50) rfl ?_); refine Kd.R_lit (Kd.int .i64) _ 2 ?hg (N := 50) ?hd (xs := ([rd l1 0, ji12] : List Int)) (inner := [.int .i64 (rd l1 0), .int .i64 ji12]) (ok := fun _ => True) (okp := fun _ => True) ?hr ?hp (fun _ hk => hk) trivial (Below.refl _ _) (Nat.le_refl _) (by simp) ?_; (case hd => rfl); (case hg => rfl); (case hr => first | (go_simp; done) | (go_simp; rfl)); (case hp => exact (Reps.one (show Kd.M (Kd.int .i64) _ _ _ (rd l1 0) [.int .i64 (rd l1 0)] from rfl) (Reps.one (show Kd.M (Kd.int .i64) _ _ _ ji12 [.int .i64 ji12] from rfl) (Reps.none _ _)))); intro v230 w20 ho21 hb hg_ hnew_; clear hg_ hnew_; (first | rw [← Ny229.out] at ho21 | (simp only [Int.reduceToNat] at ho21; rw [← Ny229.out] at ho21)); have n0_ := Aside0.mk (Kd.R_lower ho21 (below_size bl)); have n1_ := Aside0.mk (below_step bl hb); clear HB; have HO231 := n0_; have HB := n1_; clear n0_ n1_; clear hb ho21)))
          go_ret
          exact ⟨_, by first | rfl | (simp [errW_none, errW_some] <;> rfl) | (simp only [← hji12]; first | rfl | (simp [errW_none, errW_some] <;> rfl)) | (simp [*, errW_none, errW_some] <;> rfl), by (with_reducible repeat (first | apply Kd.R_alloc | apply Kd.R_drewN | apply Kd.R_drew)); exact HO231.out, bl⟩
        ·
         rw [if_neg c16] at H
         exact absurd H (by simp)
       ·
        replace c15 := Bool.eq_false_iff.mpr c15
        subst c15
        rw [if_neg (show ¬ (false = true) by decide)] at H
        obtain ⟨y232, hy232⟩ : ∃ y_ : List Int, y_ = (([rd l1 0, ji12] : List Int)) := ⟨_, rfl⟩
        replace H : (some y232) = some r := by first | (rw [hy232]; with_reducible exact H) | (have H2_ := (Option.bind_some _ _).symm.trans H; rw [hy232]; with_reducible exact H2_) | (have H2_ := (Option.bind_some _ _).symm.trans H; with_reducible exact H2_) | with_reducible exact H | (rw [hy232]; exact H) | exact H
        have Ny232 := Aside0.mk hy232
        clear hy232
        obtain rfl := Option.some.inj H
        have p219 : 0 ≤ (0 : Int) := (by omega)
        have q219 : 0 < (l1.length : Int) := ode
        obtain ⟨ad219, e219, hx219_0⟩ := Kd.at_int HR1.out 0 p219 q219
        cases e219
        have qi219 : (0 < l1.length) = True := eq_true (by omega)
        (try rw [show ((0 : Int)).toNat = 0 from rfl] at hx219_0)
        (try rw [Addr.add_zero'] at hx219_0)
        replace p219 := eq_true p219
        replace q219 := eq_true q219
        have p220 : 0 ≤ (1 : Int) := (by omega)
        have q220 : 1 < (l1.length : Int) := ode
        obtain ⟨ad220, e220, hx220_0⟩ := Kd.at_int HR1.out 1 p220 q220
        obtain rfl : ad219 = ad220 := (by injection e220)
        (try simp only [show (1 : Int).toNat = 1 from rfl, Nat.reduceMul, Nat.reduceEqDiff, Go.Addr.add, ↓reduceIte] at hx220_0)
        have qi220 : (1 < l1.length) = True := eq_true (by omega)
        (try rw [show ((1 : Int)).toNat = 1 from rfl] at hx220_0)
        replace p220 := eq_true p220
        replace q220 := eq_true q220
        have p224 : 0 ≤ (0 : Int) := (by omega)
        have q224 : 0 < (l0.length : Int) := ode
        obtain ⟨ad224, e224, hx224_0⟩ := Kd.at_int HR0.out 0 p224 q224
        cases e224
        have qi224 : (0 < l0.length) = True := eq_true (by omega)
        (try rw [show ((0 : Int)).toNat = 0 from rfl] at hx224_0)
        (try rw [Addr.add_zero'] at hx224_0)
        replace p224 := eq_true p224
        replace q224 := eq_true q224
        go_enter Tryd.func27, Tryd.ntmps27
        go_wp2_with (first | ((with_reducible refine gate_dst (N := 50) rfl ?_); refine Kd.R_lit (Kd.int .i64) _ 2 ?hg (N := 50) ?hd (xs := ([rd l1 0, ji12] : List Int)) (inner := [.int .i64 (rd l1 0), .int .i64 ji12]) (ok := fun _ => True) (okp := fun _ => True) ?hr ?hp (fun _ hk => hk) trivial (Below.refl _ _) (Nat.le_refl _) (by simp) ?_; (case hd => rfl); (case hg => rfl); (case hr => first | (go_simp; done) | (go_simp; rfl)); (case hp => exact (Reps.one (show Kd.M (Kd.int .i64) _ _ _ (rd l1 0) [.int .i64 (rd l1 0)] from rfl) (Reps.one (show Kd.M (Kd.int .i64) _ _ _ ji12 [.int .i64 ji12] from rfl) (Reps.none _ _)))); intro v233 w22 ho23 hb hg_ hnew_; clear hg_ hnew_; (first | rw [← Ny232.out] at ho23 | (simp only [Int.reduceToNat] at ho23; rw [← Ny232.out] at ho23)); have n0_ := Aside0.mk (Kd.R_lower ho23 (below_size bl)); have n1_ := Aside0.mk (below_step bl hb); clear HB; have HO234 := n0_; have HB := n1_; clear n0_ n1_; clear hb ho23))
        repeat (go_quiet (first | ((with_reducible refine gate_dst (N := 50) rfl ?_); refine Kd.R_lit (Kd.int .i64) _ 2 ?hg (N := 50) ?hd (xs := ([rd l1 0, ji12] : List Int)) (inner := [.int .i64 (rd l1 0), .int .i64 ji12]) (ok := fun _ => True) (okp := fun _ => True) ?hr ?hp (fun _ hk => hk) trivial (Below.refl _ _) (Nat.le_refl _) (by simp) ?_; (case hd => rfl); (case hg => rfl); (case hr => first | (go_simp; done) | (go_simp; rfl)); (case hp => exact (Reps.one (show Kd.M (Kd.int .i64) _ _ _ (rd l1 0) [.int .i64 (rd l1 0)] from rfl) (Reps.one (show Kd.M (Kd.int .i64) _ _ _ ji12 [.int .i64 ji12] from rfl) (Reps.none _ _)))); intro v233 w22 ho23 hb hg_ hnew_; clear hg_ hnew_; (first | rw [← Ny232.out] at ho23 | (simp only [Int.reduceToNat] at ho23; rw [← Ny232.out] at ho23)); have n0_ := Aside0.mk (Kd.R_lower ho23 (below_size bl)); have n1_ := Aside0.mk (below_step bl hb); clear HB; have HO234 := n0_; have HB := n1_; clear n0_ n1_; clear hb ho23)); try go_wp2_with (first | ((with_reducible refine gate_dst (N := 50) rfl ?_); refine Kd.R_lit (Kd.int .i64) _ 2 ?hg (N := 50) ?hd (xs := ([rd l1 0, ji12] : List Int)) (inner := [.int .i64 (rd l1 0), .int .i64 ji12]) (ok := fun _ => True) (okp := fun _ => True) ?hr ?hp (fun _ hk => hk) trivial (Below.refl _ _) (Nat.le_refl _) (by simp) ?_; (case hd => rfl); (case hg => rfl); (case hr => first | (go_simp; done) | (go_simp; rfl)); (case hp => exact (Reps.one (show Kd.M (Kd.int .i64) _ _ _ (rd l1 0) [.int .i64 (rd l1 0)] from rfl) (Reps.one (show Kd.M (Kd.int .i64) _ _ _ ji12 [.int .i64 ji12] from rfl) (Reps.none _ _)))); intro v233 w22 ho23 hb hg_ hnew_; clear hg_ hnew_; (first | rw [← Ny232.out] at ho23 | (simp only [Int.reduceToNat] at ho23; rw [← Ny232.out] at ho23)); have n0_ := Aside0.mk (Kd.R_lower ho23 (below_size bl)); have n1_ := Aside0.mk (below_step bl hb); clear HB; have HO234 := n0_; have HB := n1_; clear n0_ n1_; clear hb ho23)))
        go_ret
        exact ⟨_, by first | rfl | (simp [errW_none, errW_some] <;> rfl) | (simp only [← hji12]; first | rfl | (simp [errW_none, errW_some] <;> rfl)) | (simp [*, errW_none, errW_some] <;> rfl), by (with_reducible repeat (first | apply Kd.R_alloc | apply Kd.R_drewN | apply Kd.R_drew)); exact HO234.out, bl⟩
      ·
       rw [if_neg c14] at H
       have c14b0 : decide ((rd l1 0) < (rd l0 0)) = false := decide_eq_false c14
       clear c14
       obtain ⟨y235, hy235⟩ : ∃ y_ : List Int, y_ = (([rd l1 0, ji12] : List Int)) := ⟨_, rfl⟩
       replace H : (some y235) = some r := by first | (rw [hy235]; with_reducible exact H) | (have H2_ := (Option.bind_some _ _).symm.trans H; rw [hy235]; with_reducible exact H2_) | (have H2_ := (Option.bind_some _ _).symm.trans H; with_reducible exact H2_) | with_reducible exact H | (rw [hy235]; exact H) | exact H
       have Ny235 := Aside0.mk hy235
       clear hy235
       obtain rfl := Option.some.inj H
       have p219 : 0 ≤ (0 : Int) := (by omega)
       have q219 : 0 < (l1.length : Int) := ode
       obtain ⟨ad219, e219, hx219_0⟩ := Kd.at_int HR1.out 0 p219 q219
       cases e219
       have qi219 : (0 < l1.length) = True := eq_true (by omega)
       (try rw [show ((0 : Int)).toNat = 0 from rfl] at hx219_0)
       (try rw [Addr.add_zero'] at hx219_0)
       replace p219 := eq_true p219
       replace q219 := eq_true q219
       have p220 : 0 ≤ (1 : Int) := (by omega)
       have q220 : 1 < (l1.length : Int) := ode
       obtain ⟨ad220, e220, hx220_0⟩ := Kd.at_int HR1.out 1 p220 q220
       obtain rfl : ad219 = ad220 := (by injection e220)
       (try simp only [show (1 : Int).toNat = 1 from rfl, Nat.reduceMul, Nat.reduceEqDiff, Go.Addr.add, ↓reduceIte] at hx220_0)
       have qi220 : (1 < l1.length) = True := eq_true (by omega)
       (try rw [show ((1 : Int)).toNat = 1 from rfl] at hx220_0)
       replace p220 := eq_true p220
       replace q220 := eq_true q220
       have p224 : 0 ≤ (0 : Int) := (by omega)
       have q224 : 0 < (l0.length : Int) := ode
       obtain ⟨ad224, e224, hx224_0⟩ := Kd.at_int HR0.out 0 p224 q224
       cases e224
       have qi224 : (0 < l0.length) = True := eq_true (by omega)
       (try rw [show ((0 : Int)).toNat = 0 from rfl] at hx224_0)
       (try rw [Addr.add_zero'] at hx224_0)
       replace p224 := eq_true p224
       replace q224 := eq_true q224
       go_enter Tryd.func27, Tryd.ntmps27
       go_wp2_with (first | ((with_reducible refine gate_dst (N := 50) rfl ?_); refine Kd.R_lit (Kd.int .i64) _ 2 ?hg (N := 50) ?hd (xs := ([rd l1 0, ji12] : List Int)) (inner := [.int .i64 (rd l1 0), .int .i64 ji12]) (ok := fun _ => True) (okp := fun _ => True) ?hr ?hp (fun _ hk => hk) trivial (Below.refl _ _) (Nat.le_refl _) (by simp) ?_; (case hd => rfl); (case hg => rfl); (case hr => first | (go_simp; done) | (go_simp; rfl)); (case hp => exact (Reps.one (show Kd.M (Kd.int .i64) _ _ _ (rd l1 0) [.int .i64 (rd l1 0)] from rfl) (Reps.one (show Kd.M (Kd.int .i64) _ _ _ ji12 [.int .i64 ji12] from rfl) (Reps.none _ _)))); intro v236 w24 ho25 hb hg_ hnew_; clear hg_ hnew_; (first | rw [← Ny235.out] at ho25 | (simp only [Int.reduceToNat] at ho25; rw [← Ny235.out] at ho25)); have n0_ := Aside0.mk (Kd.R_lower ho25 (below_size bl)); have n1_ := Aside0.mk (below_step bl hb); clear HB; have HO237 := n0_; have HB := n1_; clear n0_ n1_; clear hb ho25))
       repeat (go_quiet (first | ((with_reducible refine gate_dst (N := 50) rfl ?_); refine Kd.R_lit (Kd.int .i64) _ 2 ?hg (N := 50) ?hd (xs := ([rd l1 0, ji12] : List Int)) (inner := [.int .i64 (rd l1 0), .int .i64 ji12]) (ok := fun _ => True) (okp := fun _ => True) ?hr ?hp (fun _ hk => hk) trivial (Below.refl _ _) (Nat.le_refl _) (by simp) ?_; (case hd => rfl); (case hg => rfl); (case hr => first | (go_simp; done) | (go_simp; rfl)); (case hp => exact (Reps.one (show Kd.M (Kd.int .i64) _ _ _ (rd l1 0) [.int .i64 (rd l1 0)] from rfl) (Reps.one (show Kd.M (Kd.int .i64) _ _ _ ji12 [.int .i64 ji12] from rfl) (Reps.none _ _)))); intro v236 w24 ho25 hb hg_ hnew_; clear hg_ hnew_; (first | rw [← Ny235.out] at ho25 | (simp only [Int.reduceToNat] at ho25; rw [← Ny235.out] at ho25)); have n0_ := Aside0.mk (Kd.R_lower ho25 (below_size bl)); have n1_ := Aside0.mk (below_step bl hb); clear HB; have HO237 := n0_; have HB := n1_; clear n0_ n1_; clear hb ho25)); try go_wp2_with (first | ((with_reducible refine gate_dst (N := 50) rfl ?_); refine Kd.R_lit (Kd.int .i64) _ 2 ?hg (N := 50) ?hd (xs := ([rd l1 0, ji12] : List Int)) (inner := [.int .i64 (rd l1 0), .int .i64 ji12]) (ok := fun _ => True) (okp := fun _ => True) ?hr ?hp (fun _ hk => hk) trivial (Below.refl _ _) (Nat.le_refl _) (by simp) ?_; (case hd => rfl); (case hg => rfl); (case hr => first | (go_simp; done) | (go_simp; rfl)); (case hp => exact (Reps.one (show Kd.M (Kd.int .i64) _ _ _ (rd l1 0) [.int .i64 (rd l1 0)] from rfl) (Reps.one (show Kd.M (Kd.int .i64) _ _ _ ji12 [.int .i64 ji12] from rfl) (Reps.none _ _)))); intro v236 w24 ho25 hb hg_ hnew_; clear hg_ hnew_; (first | rw [← Ny235.out] at ho25 | (simp only [Int.reduceToNat] at ho25; rw [← Ny235.out] at ho25)); have n0_ := Aside0.mk (Kd.R_lower ho25 (below_size bl)); have n1_ := Aside0.mk (below_step bl hb); clear HB; have HO237 := n0_; have HB := n1_; clear n0_ n1_; clear hb ho25)))
       go_ret
       exact ⟨_, by first | rfl | (simp [errW_none, errW_some] <;> rfl) | (simp only [← hji12]; first | rfl | (simp [errW_none, errW_some] <;> rfl)) | (simp [*, errW_none, errW_some] <;> rfl), by (with_reducible repeat (first | apply Kd.R_alloc | apply Kd.R_drewN | apply Kd.R_drew)); exact HO237.out, bl⟩
     ·
      rw [if_neg c13] at H
      exact absurd H (by simp)
   ·
    replace c8 := Bool.eq_false_iff.mpr c8
    subst c8
    rw [if_neg (show ¬ (false = true) by decide)] at H
    obtain ⟨y238, hy238⟩ : ∃ y_ : List Int, y_ = (([0, 0] : List Int)) := ⟨_, rfl⟩
    replace H : (some y238) = some r := by first | (rw [hy238]; with_reducible exact H) | (have H2_ := (Option.bind_some _ _).symm.trans H; rw [hy238]; with_reducible exact H2_) | (have H2_ := (Option.bind_some _ _).symm.trans H; with_reducible exact H2_) | with_reducible exact H | (rw [hy238]; exact H) | exact H
    have Ny238 := Aside0.mk hy238
    clear hy238
    obtain rfl := Option.some.inj H
    have p219 : 0 ≤ (0 : Int) := (by omega)
    have q219 : 0 < (l1.length : Int) := ode
    obtain ⟨ad219, e219, hx219_0⟩ := Kd.at_int HR1.out 0 p219 q219
    cases e219
    have qi219 : (0 < l1.length) = True := eq_true (by omega)
    (try rw [show ((0 : Int)).toNat = 0 from rfl] at hx219_0)
    (try rw [Addr.add_zero'] at hx219_0)
    replace p219 := eq_true p219
    replace q219 := eq_true q219
    have p220 : 0 ≤ (1 : Int) := (by omega)
    have q220 : 1 < (l1.length : Int) := ode
    obtain ⟨ad220, e220, hx220_0⟩ := Kd.at_int HR1.out 1 p220 q220
    obtain rfl : ad219 = ad220 := (by injection e220)
    (try simp only [show (1 : Int).toNat = 1 from rfl, Nat.reduceMul, Nat.reduceEqDiff, Go.Addr.add, ↓reduceIte] at hx220_0)
    have qi220 : (1 < l1.length) = True := eq_true (by omega)
    (try rw [show ((1 : Int)).toNat = 1 from rfl] at hx220_0)
    replace p220 := eq_true p220
    replace q220 := eq_true q220
    go_enter Tryd.func27, Tryd.ntmps27
    go_wp2_with (first | ((with_reducible refine gate_dst (N := 22) rfl ?_); refine Kd.R_lit (Kd.int .i64) _ 2 ?hg (N := 22) ?hd (xs := ([0, 0] : List Int)) (inner := [.int .i64 0, .int .i64 0]) (ok := fun _ => True) (okp := fun _ => True) ?hr ?hp (fun _ hk => hk) trivial (Below.refl _ _) (Nat.le_refl _) (by simp) ?_; (case hd => rfl); (case hg => rfl); (case hr => first | (go_simp; done) | (go_simp; rfl)); (case hp => exact (Reps.one (show Kd.M (Kd.int .i64) _ _ _ 0 [.int .i64 0] from rfl) (Reps.one (show Kd.M (Kd.int .i64) _ _ _ 0 [.int .i64 0] from rfl) (Reps.none _ _)))); intro v239 w26 ho27 hb hg_ hnew_; clear hg_ hnew_; (first | rw [← Ny238.out] at ho27 | (simp only [Int.reduceToNat] at ho27; rw [← Ny238.out] at ho27)); have n0_ := Aside0.mk (Kd.R_lower ho27 (below_size bl)); have n1_ := Aside0.mk (below_step bl hb); clear HB; have HO240 := n0_; have HB := n1_; clear n0_ n1_; clear hb ho27))
    repeat (go_quiet (first | ((with_reducible refine gate_dst (N := 22) rfl ?_); refine Kd.R_lit (Kd.int .i64) _ 2 ?hg (N := 22) ?hd (xs := ([0, 0] : List Int)) (inner := [.int .i64 0, .int .i64 0]) (ok := fun _ => True) (okp := fun _ => True) ?hr ?hp (fun _ hk => hk) trivial (Below.refl _ _) (Nat.le_refl _) (by simp) ?_; (case hd => rfl); (case hg => rfl); (case hr => first | (go_simp; done) | (go_simp; rfl)); (case hp => exact (Reps.one (show Kd.M (Kd.int .i64) _ _ _ 0 [.int .i64 0] from rfl) (Reps.one (show Kd.M (Kd.int .i64) _ _ _ 0 [.int .i64 0] from rfl) (Reps.none _ _)))); intro v239 w26 ho27 hb hg_ hnew_; clear hg_ hnew_; (first | rw [← Ny238.out] at ho27 | (simp only [Int.reduceToNat] at ho27; rw [← Ny238.out] at ho27)); have n0_ := Aside0.mk (Kd.R_lower ho27 (below_size bl)); have n1_ := Aside0.mk (below_step bl hb); clear HB; have HO240 := n0_; have HB := n1_; clear n0_ n1_; clear hb ho27)); try go_wp2_with (first | ((with_reducible refine gate_dst (N := 22) rfl ?_); refine Kd.R_lit (Kd.int .i64) _ 2 ?hg (N := 22) ?hd (xs := ([0, 0] : List Int)) (inner := [.int .i64 0, .int .i64 0]) (ok := fun _ => True) (okp := fun _ => True) ?hr ?hp (fun _ hk => hk) trivial (Below.refl _ _) (Nat.le_refl _) (by simp) ?_; (case hd => rfl); (case hg => rfl); (case hr => first | (go_simp; done) | (go_simp; rfl)); (case hp => exact (Reps.one (show Kd.M (Kd.int .i64) _ _ _ 0 [.int .i64 0] from rfl) (Reps.one (show Kd.M (Kd.int .i64) _ _ _ 0 [.int .i64 0] from rfl) (Reps.none _ _)))); intro v239 w26 ho27 hb hg_ hnew_; clear hg_ hnew_; (first | rw [← Ny238.out] at ho27 | (simp only [Int.reduceToNat] at ho27; rw [← Ny238.out] at ho27)); have n0_ := Aside0.mk (Kd.R_lower ho27 (below_size bl)); have n1_ := Aside0.mk (below_step bl hb); clear HB; have HO240 := n0_; have HB := n1_; clear n0_ n1_; clear hb ho27)))
    go_ret
    exact ⟨_, by first | rfl | (simp [errW_none, errW_some] <;> rfl) | (simp [*, errW_none, errW_some] <;> rfl), by (with_reducible repeat (first | apply Kd.R_alloc | apply Kd.R_drewN | apply Kd.R_drew)); exact HO240.out, bl⟩
  ·
   rw [if_neg c7] at H
   exact absurd H (by simp)
 ·
  rw [if_neg c6] at H
  exact absurd H (by simp)

end Go.Proofs.YtcpncmjjbfbdhaaDoor.R
